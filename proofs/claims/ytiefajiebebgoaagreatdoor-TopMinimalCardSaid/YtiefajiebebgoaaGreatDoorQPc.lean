/- Lemmas and contracts on what the walks need, several small texts in one. Conditions: as each theorem states. -/
import Derived.Test.YtiefajiebebgoaaGreatDoorQHd
import Derived.Test.YtiefajiebebgoaaGreatDoorQPb
import Derived.Test.YtiefajiebebgoaaGreatDoorQPa
import Derived.Shelf.SlSortCmp.NoneTotal
import Derived.Maps.OwnSet
import Derived.Maps.RangeWalk
import Derived.Deep.AppendLies
import Derived.Deep.RegionHeld3
import Derived.Shelf.SortM.Plain
import Derived.Shelf.SortM.SortNone
import Derived.Ground.SlgmProg
import Derived.Ground.NamesProg
import Derived.Test.YtiefajiebebgoaaGreatDoorProg
set_option maxRecDepth 20000
set_option maxHeartbeats 8000000
open Go.Proofs.Tryz
namespace Go.Proofs.YtiefajiebebgoaaGreatDoor
set_option linter.unusedVariables false
open Go.RowKit Go.Shelf
def setL (L:Nat→Bool) (i:Nat):Nat→Bool:=fun k=>if k=i then true else L k
theorem Ei (L:Nat→Bool) (i:Nat):setL L i i=true:=if_pos rfl
theorem Kl (L:Nat→Bool) {i k:Nat} (h:k≠i):setL L i k=L k:=if_neg h
def StepI (P:Program) (ops:Array Oper) (Q:Exit→Act→World→Prop) (I:(Nat→Bool)→Act→World→Prop) (k:Nat) (o:Oper):Prop:=
 ∀ L a w,L k=false→(∀(j:Nat) (o':Oper),ops[j]?=some o'→L j=true→∀ e∈o'.after.toList,Region.binds .any e=true→L e.on=true)→(∀ e∈o.after.toList,Region.binds .any e=true→L e.on=true)→∀ K:Act→World→Prop,(∀ a' w',I (setL L k) a' w'→K a' w')→I L a w→if Region.wanted o (yielded ops a.tmps)=true then o.wp P a w K Q else K (a.put o.dst undef) w
def sl (b:Bool) (v:Value):Value:=match b with
 |true=>v
 |false=>undef
def Aj (b:Bool) (v u:Value):Value:=match b with
 |true=>v
 |false=>u
def unitR:Q3 where
 P w F:=F=fun _=>False
 lt h k hk:=by subst h;exact hk.elim
 mod h _ _:=h
def Qj (b:Bool) (R:Q3):Q3:=match b with
 |true=>R
 |false=>unitR
def Qc {α:Type} (b:Bool) (x y:α):α:=match b with
 |true=>x
 |false=>y
theorem St.unit {lo:Nat} {w0 w:World} {Rs:List Q3} (h:St lo w0 w Rs):St lo w0 w (unitR::Rs):=by obtain⟨h1,h2,h3⟩:=h;exact⟨h1,h2,fun _=>False,fun k=>lo≤k,rfl,h3,fun k hk=>hk.elim,fun k hk=>hk⟩
theorem Qg (v:Value):sl true v=v:=rfl
theorem Qe (v:Value):sl false v=undef:=rfl
theorem Qd (v u:Value):Aj true v u=v:=rfl
theorem Qb (v u:Value):Aj false v u=u:=rfl
def Nh (P:Program) (ops:Array Oper) (Q:Exit→Act→World→Prop) (I:(Nat→Bool)→Act→World→Prop):Nat→List Oper→Prop
 |_,[]=>True
 |k,o::rest=>StepI P ops Q I k o∧Nh P ops Q I (k+1) rest
section
variable {P:Program} {ops:Array Oper} {Q:Exit→Act→World→Prop} {I:(Nat→Bool)→Act→World→Prop}
theorem Nh.get:∀ {l:List Oper} {k:Nat},Nh P ops Q I k l→∀(j:Nat) (o:Oper),l[j]?=some o→StepI P ops Q I (k+j) o
 |[],_,_,_,_,h=>by cases h
 |o::l,k,h,0,o',ho=>by injection ho with ho;subst ho;exact h.1
 |o::l,k,h,j+1,o',ho=>by have:=h.2.get j o' ho;rw[show k+1+j=k+(j+1) by omega] at this;exact this
def Va (listed:Array Bool):Nat→Bool:=fun k=>listed.getD k false
theorem Pl (listed:Array Bool) {i:Nat} (h:i<listed.size):Va (listed.setIfInBounds i true)=setL (Va listed) i:=by
 funext k
 unfold Va setL
 by_cases e:k=i
 ·subst e
  simp[h]
 ·rw[if_neg e]
  simp[Array.getElem?_setIfInBounds_ne (Ne.symm e)]
def cntF (l:List Bool):Nat:=(l.filter fun b=>!b).length
theorem cntF_set:∀(l:List Bool) (i:Nat),l[i]?=some false→cntF (l.set i true)+1=cntF l
 |[],_,h=>by cases h
 |b::l,0,h=>by injection h with h;subst h;rfl
 | b::l,i+1,h=>by
   have:=cntF_set l i h;unfold cntF at *;rw[List.set_cons_succ,List.filter_cons,List.filter_cons]
   cases b
   ·simp only[Bool.not_false,if_true,List.length_cons];omega
   ·simpa using this
theorem P9:∀(l:List Bool),cntF l=0→∀ i,i<l.length→l[i]?=some true
 |[],_,_,h=>absurd h (Nat.not_lt_zero _)
 | b :: l,h,i,hi=>by
   cases b with
   |false=>simp[cntF] at h
   | true=>
     cases i with
     |zero=>rfl
     |succ i=>exact P9 l (by simpa [cntF] using h) i (by simpa using hi)
def Nf (ops:Array Oper):Bool:=(List.range ops.size).all fun i=>((ops[i]?).map fun o=>o.after.all fun e=>(decide (e.on<i)||!Region.binds .any e)).getD false
theorem Rb (h:Nf ops=true) {i:Nat} {o:Oper} (ho:ops[i]?=some o):∀ e∈o.after,Region.binds .any e=true→e.on<i:=fun e he hb=>by have hi:=(Array.getElem?_eq_some_iff.1 ho).1;have:=List.all_eq_true.1 h i (List.mem_range.2 hi);rw[ho] at this;have:=Array.all_eq_true_iff_forall_mem.1 (by simpa using this:o.after.all (fun e=>decide (e.on<i)||!Region.binds .any e)=true) e he;simpa [hb] using this
theorem Ce (ha:Nf ops=true) {listed:Array Bool} (hz:listed.size=ops.size) (h:Region.ready .any ops listed=[]):∀ k,k<ops.size→Va listed k=true:=by
 intro k
 induction k using Nat.strongRecOn with
 | _ k ih=>
   intro hk
   cases e:Va listed k with
   |true=>rfl
   | false=>
     exfalso
     have hm:k∈Region.ready .any ops listed:=by
      rw[mem_ready];have hk2:k<listed.size :=(by omega);refine⟨?_,ops[k],Array.getElem?_eq_getElem hk,fun e he hb=>?_⟩
      ·unfold Va at e
       simpa [hk2] using e
      ·have hlt:=Rb ha (Array.getElem?_eq_getElem hk) e he hb
       exact ih e.on hlt (by omega)
     rw[h] at hm
     cases hm
theorem Bl (ha:Nf ops=true) (hs:Nh P ops Q I 0 ops.toList) (he:∀ L a w,(∀ k,k<ops.size→L k=true)→I L a w→Q .normal a w):
 ∀(fuel:Nat) (listed:Array Bool) (a:Act) (w:World),listed.size=ops.size→(∀(j:Nat) (o':Oper),ops[j]?=some o'→Va listed j=true→∀ e∈o'.after.toList,Region.binds .any e=true→Va listed e.on=true)→cntF listed.toList=fuel→I (Va listed) a w→wpAny P .any ops Q fuel listed a w
 | 0,listed,a,w,hz,hcl,hc,hI=>by
   have hall:∀ k,k<ops.size→Va listed k=true:=fun k hk=>by have:=P9 _ hc k (by simpa [hz] using hk);unfold Va;simpa using congrArg (fun o=>o.getD false) this
   refine⟨?_,he _ _ _ hall hI⟩
   cases hr:Region.ready .any ops listed with
   |nil=>rfl
   | cons i is=>
     exfalso;have hi:i∈Region.ready .any ops listed :=(by rw[hr];exact List.mem_cons_self ..);obtain⟨h1,o,h2,_⟩:=mem_ready.1 hi;have hlt:=(Array.getElem?_eq_some_iff.1 h2).1;have:=hall i hlt;unfold Va at this;have hlt2:i<listed.size :=(by omega);simp[hlt2] at h1 this;rw[h1] at this
     cases this
 | fuel+1,listed,a,w,hz,hcl,hc,hI=>by
   refine⟨fun hr=>he _ _ _ (Ce ha hz hr) hI,fun i hi=>?_⟩;obtain⟨h1,o,h2,h3⟩:=mem_ready.1 hi;have hlt:=(Array.getElem?_eq_some_iff.1 h2).1;have hlt2:i<listed.size :=(by omega);have hg:=hs.get i o (by simpa using h2);rw[Nat.zero_add] at hg;have hf:listed.toList[i]?=some false :=(by simp[hlt2] at h1;simp[hlt2,h1]);have hst:=hg (Va listed) a w (by unfold Va;simp[hlt2] at h1;simp[hlt2,h1]) hcl (fun e hE hb=>h3 e (by simpa using hE) hb)
   have key:∀ a' w',I (setL (Va listed) i) a' w'→wpAny P .any ops Q fuel (listed.setIfInBounds i true) a' w':=fun a' w' h=>by
    refine Bl ha hs he fuel _ a' w' (by simpa using hz) ?_ ?_ (by rw[Pl listed hlt2];exact h)
    ·rw[Pl listed hlt2]
     intro j o' hj hL e hE hb
     by_cases hji:j=i
     ·subst hji
      rw[h2] at hj;injection hj with hj;subst hj
      by_cases e2:e.on=j
      ·rw[e2];exact Ei _ _
      ·rw[Kl _ e2];exact h3 e (by simpa using hE) hb
     ·rw[Kl _ hji] at hL
      by_cases e2:e.on=i
      ·rw[e2];exact Ei _ _
      ·rw[Kl _ e2];exact hcl j o' hj hL e hE hb
    have:=cntF_set listed.toList i hf;rw[hc] at this;have e:(listed.setIfInBounds i true).toList=listed.toList.set i true :=(by simp);rw[e];omega
   have hst:=hst _ key hI;unfold wpOp;rw[h2];dsimp only
   by_cases hw:Region.wanted o (yielded ops a.tmps)=true
   ·rw[if_pos hw] at hst ⊢
    exact .inl hst
   ·rw[if_neg hw] at hst ⊢
    exact hst
def G1 (T F:Nat) (L:Nat→Bool):Nat→Bool:=fun j=>if T.testBit j=true then true else if F.testBit j=true then false else L j
theorem ot {T F j:Nat} {L:Nat→Bool} (h:T.testBit j=true):G1 T F L j=true:=if_pos h
theorem og {T F j:Nat} {L:Nat→Bool} (h:T.testBit j=false) (g:F.testBit j=true):G1 T F L j=false:=by unfold G1;rw[if_neg (by rw[h];decide),if_pos g]
theorem oo {T F j:Nat} {L:Nat→Bool} (h:T.testBit j=false) (g:F.testBit j=false):G1 T F L j=L j:=by unfold G1;rw[if_neg (by rw[h];decide),if_neg (by rw[g];decide)]
def StepK (P:Program) (ops:Array Oper) (Q:Exit→Act→World→Prop) (I:(Nat→Bool)→Act→World→Prop) (o:Oper) (T F T':Nat):Prop:=
 ∀ L w (K:Act→World→Prop),Hid (∀ a' w',I (G1 T' F L) a' w'→K a' w')→∀ a,I (G1 T F L) a w→if Region.wanted o (yielded ops a.tmps)=true then o.wp P a w K Q else K (a.put o.dst undef) w
def Ng (P:Program) (ops:Array Oper) (Q:Exit→Act→World→Prop) (I:(Nat→Bool)→Act→World→Prop):List Oper→List (Nat×Nat×Nat)→Prop
 |[],_=>True
 |_::_,[]=>False
 |o::l,(T,F,T')::r=>StepK P ops Q I o T F T'∧Ng P ops Q I l r
def tof (tf:List (Nat×Nat×Nat)) (k:Nat):Nat:=(tf[k]?.map fun x=>x.1).getD 0
def Fo (n:Nat) (tf:List (Nat×Nat×Nat)) (k:Nat) (o:Oper) (x:Nat×Nat×Nat):Bool:=
 decide (k<n)&&decide (x.1<2 ^ n)&&decide (x.2.1<2 ^ n)&&decide (x.2.2<2 ^ n)&&(List.range n).all fun j =>(!x.1.testBit j||o.after.toList.any fun e=>Region.binds .any e&&(e.on==j||(tof tf e.on).testBit j))&&(!x.2.1.testBit j||j==k||(tof tf j).testBit k)&&(x.2.2.testBit j==(x.1.testBit j||j==k))
def Bn (n:Nat) (tf:List (Nat×Nat×Nat)):Nat→List Oper→List (Nat×Nat×Nat)→Bool
 |_,[],[]=>true
 |k,o::l,x::r=>Fo n tf k o x&&Bn n tf (k+1) l r
 |_,[],_::_=>false
 |_,_::_,[]=>false
theorem Iq {n x j:Nat} (hx:x<2 ^ n) (h:x.testBit j=true):j<n:=by
 rcases Nat.lt_or_ge j n with h1|h1
 ·exact h1
 ·rw[Nat.testBit_lt_two_pow (Nat.lt_of_lt_of_le hx (Nat.pow_le_pow_right (by decide) h1))] at h
  cases h
theorem Fo.spec {n k:Nat} {tf:List (Nat×Nat×Nat)} {o:Oper} {x:Nat×Nat×Nat} (h:Fo n tf k o x=true):
 (∀ j,x.1.testBit j=true→∃ e∈o.after.toList,Region.binds .any e=true∧(e.on=j∨(tof tf e.on).testBit j=true))∧(∀ j,x.2.1.testBit j=true→j=k∨(tof tf j).testBit k=true)∧∀ j,x.2.2.testBit j=(x.1.testBit j||j==k):=by
 unfold Fo at h;simp only[Bool.and_eq_true,decide_eq_true_eq,List.all_eq_true,List.mem_range] at h;obtain⟨⟨⟨⟨hk,h1⟩,h2⟩,h3⟩,hall⟩:=h;refine⟨fun j hj=>?_,fun j hj=>?_,fun j=>?_⟩
 ·have:=(hall j (Iq h1 hj)).1.1
  rw[hj,Bool.not_true,Bool.false_or] at this;obtain⟨e,he,h⟩:=List.any_eq_true.1 this;rw[Bool.and_eq_true,Bool.or_eq_true,beq_iff_eq] at h;exact⟨e,he,h⟩
 ·have:=(hall j (Iq h2 hj)).1.2
  rw[hj] at this;simpa using this
 ·rcases Nat.lt_or_ge j n with hn|hn
  ·simpa using (hall j hn).2
  ·have a1:x.1.testBit j=false:=Bool.eq_false_iff.2 fun c=>absurd (Iq h1 c) (Nat.not_lt.2 hn)
   have a3:x.2.2.testBit j=false:=Bool.eq_false_iff.2 fun c=>absurd (Iq h3 c) (Nat.not_lt.2 hn);rw[a1,a3];simpa using (show j≠k by omega)
theorem Bn.get {n:Nat} {tf:List (Nat×Nat×Nat)}:∀ {l:List Oper} {r:List (Nat×Nat×Nat)} {k:Nat},Bn n tf k l r=true→∀(i:Nat) (x:Nat×Nat×Nat),r[i]?=some x→∃ o,l[i]?=some o∧Fo n tf (k+i) o x=true
 |[],[],_,_,_,_,h=>by cases h
 |[],_::_,_,h,_,_,_=>by cases h
 |_::_,[],_,h,_,_,_=>by cases h
 |o::l,x::r,k,h,0,y,hy=>by injection hy with hy;subst hy;exact⟨o,rfl,(Bool.and_eq_true _ _▸h:_∧_).1⟩
 |o::l,x::r,k,h,i+1,y,hy=>by obtain⟨o',h1,h2⟩:=Bn.get (Bool.and_eq_true _ _▸h:_∧_).2 i y hy;exact⟨o',h1,by rw[show k+(i+1)=k+1+i by omega];exact h2⟩
theorem Ng.get:∀ {l:List Oper} {r:List (Nat×Nat×Nat)},Ng P ops Q I l r→∀(i:Nat) (o:Oper),l[i]?=some o→∃ x,r[i]?=some x∧StepK P ops Q I o x.1 x.2.1 x.2.2
 |[],_,_,_,_,h=>by cases h
 |_::_,[],h,_,_,_=>h.elim
 |o::l,x::r,h,0,o',ho=>by injection ho with ho;subst ho;exact⟨x,rfl,h.1⟩
 |o::l,x::r,h,i+1,o',ho=>Ng.get h.2 i o' ho
theorem tof_up {l:List Oper} {tf:List (Nat×Nat×Nat)} (ha:Nf l.toArray=true) (ht:Bn l.length tf 0 l tf=true) {L:Nat→Bool}
 (hcl:∀(j:Nat) (o':Oper),l.toArray[j]?=some o'→L j=true→∀ e∈o'.after.toList,Region.binds .any e=true→L e.on=true):∀(i:Nat),L i=true→∀ j,(tof tf i).testBit j=true→L j=true:=by
 intro i
 induction i using Nat.strongRecOn with
 | _ i ih=>
   intro hi j hj
   cases hx:tf[i]? with
   |none=>simp[tof,hx] at hj
   | some x=>
     obtain⟨o,ho,hs⟩:=Bn.get ht i x hx;rw[Nat.zero_add] at hs;have e1:tof tf i=x.1 :=(by simp[tof,hx]);rw[e1] at hj;obtain⟨e,he,hb,h⟩:=(Fo.spec hs).1 j hj;have ho':l.toArray[i]?=some o :=(by simpa using ho);have hup:=hcl i o ho' hi e he hb;rcases h with rfl|h
     ·exact hup
     ·exact ih e.on (Rb ha ho' e (by simpa using he) hb) hup j h
theorem I9 {l:List Oper} {tf:List (Nat×Nat×Nat)} (ha:Nf l.toArray=true) (ht:Bn l.length tf 0 l tf=true) (hs:Ng P ops Q I l tf) (hops:ops=l.toArray):
 ∀(s:List Oper) (k:Nat),(∀ i,s[i]?=l[k+i]?)→Nh P ops Q I k s
 |[],_,_=>trivial
 | o :: s,k,hl=>by
   refine⟨?_,I9 ha ht hs hops s (k+1) fun i=>by have:=hl (i+1);rw[show k+1+i=k+(i+1) by omega];simpa using this⟩;intro L a w hL hcl hd K hK hI;have ho:l[k]?=some o :=(by simpa using (hl 0).symm);obtain⟨x,hx,hst⟩:=hs.get k o ho;obtain⟨o',ho',hok⟩:=Bn.get ht k x hx;rw[ho] at ho';injection ho' with ho';subst ho';rw[Nat.zero_add] at hok;obtain⟨s1,s2,s3⟩:=Fo.spec hok;rw[hops] at hcl;have up:=tof_up ha ht hcl
   have hT:∀ j,x.1.testBit j=true→L j=true:=fun j hj=>by
    obtain⟨e,he,hb,h⟩:=s1 j hj;rcases h with rfl|h
    ·exact hd e he hb
    ·exact up _ (hd e he hb) j h
   have hF:∀ j,x.2.1.testBit j=true→L j=false:=fun j hj=>by
    rcases s2 j hj with rfl|h
    ·exact hL
    ·cases e:L j with
     |false=>rfl
     |true=>rw[up j e k h] at hL;cases hL
   have e1:G1 x.1 x.2.1 L=L:=by
    funext j
    unfold G1
    by_cases h1:x.1.testBit j=true
    ·rw[if_pos h1,hT j h1]
    ·rw[if_neg h1]
     by_cases h2:x.2.1.testBit j=true
     ·rw[if_pos h2,hF j h2]
     ·rw[if_neg h2]
   have e2:G1 x.2.2 x.2.1 L=setL L k:=by
    funext j
    by_cases hj:j=k
    ·subst hj
     rw[Ei];exact if_pos (by rw[s3];simp)
    ·rw[Kl _ hj]
     have e3:x.2.2.testBit j=x.1.testBit j :=(by rw[s3];simp[hj]);have:=congrFun e1 j;unfold G1 at this ⊢;rw[e3];exact this
   exact hst L w K (fun a' w' h=>hK a' w' (by rw[←e2];exact h)) a (by rw[e1];exact hI)
theorem Vt {id:Nat} {a:Act} {w:World} {l:List Oper} (hm:P.follows .mixedOrders=true) (tf:List (Nat×Nat×Nat)) (N:Nat) (I:(Nat→Bool)→Act→World→Prop) (ha:Nf l.toArray=true) (ht:Bn l.length tf 0 l tf=true) (hN:N=2 ^ l.length-1) (h0:I (fun _=>false) a w.drew)
 (hs:Ng P l.toArray Q I l tf) (he:∀ L a w,I (G1 N 0 L) a w→Q .normal a w):(Code.region id l.toArray true).wp P Q a w:=by
 have hall:∀ L a w,(∀ k,k<l.length→L k=true)→I L a w→Q .normal a w:=fun L a w hL hI=>he L a w (by
  rw[show G1 N 0 L=L from ?_]
  ·exact hI
  ·funext j
   unfold G1
   by_cases h:N.testBit j=true
   ·rw[if_pos h]
    rw[hN,Nat.testBit_two_pow_sub_one] at h;exact(hL j (of_decide_eq_true h)).symm
   ·rw[if_neg h,if_neg (by simp)])
 have hst:Nh P l.toArray Q I 0 l:=I9 ha ht hs rfl l 0 fun i=>by rw[Nat.zero_add]
 refine wp_region_any hm (Bl (I:=I) ha (by simpa using hst) (by simpa using hall) _ _ a _ (by simp) ?_ ?_ ?_)
 ·intro j o' _ h
  unfold Va at h;rw[Array.getD_eq_getD_getElem?,Array.getElem?_replicate] at h
  split at h<;>cases h
 ·simp[cntF]
 ·have e:Va (Array.replicate l.toArray.size false)=fun _=>false:=by
   funext k
   unfold Va;rw[Array.getD_eq_getD_getElem?,Array.getElem?_replicate]
   split<;>rfl
  rw[e];exact h0
end
attribute [local go_sem] Oper.semAt_some
theorem ws:(∀(w:World) (a:Addr) (v:Value),(w.setCell a v).heap.size=w.heap.size)∧(∀(w:World) (o:Obj),(w.alloc o).heap.size=w.heap.size+1)∧(∀ w:World,w.drew.heap.size=w.heap.size):=⟨fun w a v=>by simp[World.setCell],fun w o=>by simp,fun w=>rfl⟩
theorem Fu {P:Program} {c:Code} {Q:Exit→Act→World→Prop} {a:Act} {w:World} {α β:Type} (S:α→β→World→Prop) {F:α→β→Act}
 (h:c.wp P (fun e a' w'=>e=Exit.normal∧∃ x1 x2,a'=F x1 x2∧S x1 x2 w') a w) (k:∀ x1 x2 w',S x1 x2 w'→Q Exit.normal (F x1 x2) w'):c.wp P Q a w:=
 Code.wp_mono (fun e a w hr=>by obtain⟨rfl,x1,x2,rfl,hs⟩:=hr;exact k _ _ _ hs) h
theorem region_one {P:Program} {c:Code} {Q:Exit→Act→World→Prop} {a:Act} {w:World} {α:Type} (S:α→World→Prop) {F:α→Act}
 (h:c.wp P (fun e a' w'=>e=Exit.normal∧∃ x1,a'=F x1∧S x1 w') a w) (k:∀ x1 w',S x1 w'→Q Exit.normal (F x1) w'):c.wp P Q a w:=
 Code.wp_mono (fun e a w hr=>by obtain⟨rfl,x1,rfl,hs⟩:=hr;exact k _ _ hs) h
theorem Cc {P:Program} {c:Code} {Q:Exit→Act→World→Prop} {a:Act} {w:World} (S:World→Prop) {F:Act}
 (h:c.wp P (fun e a' w'=>e=Exit.normal∧a'=F∧S w') a w) (k:∀ w',S w'→Q Exit.normal F w'):c.wp P Q a w:=
 Code.wp_mono (fun e a w hr=>by obtain⟨rfl,rfl,hs⟩:=hr;exact k _ hs) h
def cmpV (a0 a1 a2 b0 b1 b2:Int):Int:=if Rh a0 b0≠0 then Rh a0 b0 else if Rh a1 b1≠0 then Rh a1 b1 else Rh a2 b2
def VC (x y z:Int) (k:Nat):Prop:=(0<k→x=0)∧(1<k→y=0)∧(2<k→z=0)
theorem bdN {B:Nat} {a w:World} (h:Below B a w) (n:Nat):Below B a (w.drewN n):=⟨h.os,h.tape,h.output,h.size,h.block⟩
theorem cmpV_spec (a0 a1 a2 b0 b1 b2:Int) (w:World):Calls prog 84 #[.agg #[.int .i64 a0,.int .i64 a1,.int .i64 a2],.agg #[.int .i64 b0,.int .i64 b1,.int .i64 b2]] w fun e w'=>e=.returned (.int .i64 (cmpV a0 a1 a2 b0 b1 b2))∧Below w.heap.size w w':=by
 have kA:=fun W=>Fv a0 a1 a2 W;have kB:=fun W=>Fv b0 b1 b2 W;have y0:=((St.nil w).alloc 36 #[.int .i64 a0,.int .i64 a1,.int .i64 a2]).alloc 36 #[.int .i64 b0,.int .i64 b1,.int .i64 b2];obtain⟨W0,hW0⟩:∃ W0,(w.alloc (.cells #[.int .i64 a0,.int .i64 a1,.int .i64 a2] 36)).alloc (.cells #[.int .i64 b0,.int .i64 b1,.int .i64 b2] 36)=W0:=⟨_,rfl⟩;rw[hW0,show (w.alloc (.cells #[.int .i64 a0,.int .i64 a1,.int .i64 a2] 36)).heap.size=w.heap.size+1 by simp] at y0;obtain⟨r,hr⟩:∃ r,cmpV a0 a1 a2 b0 b1 b2=r:=⟨_,rfl⟩;rw[hr];have HR:=Kd hr;clear hr;go_enter func84,ntmps84;go_wp2_with fail;apply Fu (fun (pG pJ:Nat) w'=>St w.heap.size w w' [Qa pG 215 #[.int .i64 a0,.int .i64 a1,.int .i64 a2],Qa pJ 215 #[.int .i64 b0,.int .i64 b1,.int .i64 b2],Qa (w.heap.size+1) 36 #[.int .i64 b0,.int .i64 b1,.int .i64 b2],Qa (w.heap.size) 36 #[.int .i64 a0,.int .i64 a1,.int .i64 a2]])
 case h=>
  obtain⟨AA,hAA⟩:∃ AA:(Nat→Bool)→Nat→Nat→Act,Hid (∀ L g5 g6,AA L g5 g6={ tmps:=#[.agg #[.int .i64 a0,.int .i64 a1,.int .i64 a2],.agg #[.int .i64 b0,.int .i64 b1,.int .i64 b2],.pointer (some ⟨w.heap.size,0,none⟩),.pointer (some ⟨w.heap.size+1,0,none⟩),.int .i64 0,sl (L 4) (.pointer (some ⟨g5,0,none⟩)),sl (L 5) (.pointer (some ⟨g6,0,none⟩)),undef,undef,sl (L 0) (.agg #[.int .i64 a0,.int .i64 a1,.int .i64 a2]),sl (L 1) (.agg #[.int .i64 a0,.int .i64 a1,.int .i64 a2]),sl (L 2) (.agg #[.int .i64 b0,.int .i64 b1,.int .i64 b2]),sl (L 3) (.agg #[.int .i64 b0,.int .i64 b1,.int .i64 b2]),undef,undef,undef,undef,undef,undef,undef,undef,undef,undef,undef,undef,undef,undef],defers:=[] }):=⟨_,Kd fun _ _ _=>rfl⟩;obtain⟨SS,hSS⟩:∃ SS:(Nat→Bool)→Nat→Nat→World→Prop,Hid (∀ L g5 g6 w',SS L g5 g6 w'=(St w.heap.size w w' [Qj (L 4) (Qa g5 215 (Qc (L 6) #[.int .i64 a0,.int .i64 a1,.int .i64 a2] #[.int .i64 0,.int .i64 0,.int .i64 0])),Qj (L 5) (Qa g6 215 (Qc (L 7) #[.int .i64 b0,.int .i64 b1,.int .i64 b2] #[.int .i64 0,.int .i64 0,.int .i64 0])),Qa (w.heap.size+1) 36 #[.int .i64 b0,.int .i64 b1,.int .i64 b2],Qa (w.heap.size) 36 #[.int .i64 a0,.int .i64 a1,.int .i64 a2]])):=⟨_,Kd fun _ _ _ _=>rfl⟩;refine Vt (by kernel_rfl) [(0,203,1),(1,202,3),(0,204,4),(7,200,15),(0,208,16),(0,224,32),(63,192,127),(127,128,255)] 255 (fun L a w'=>∃(g5:Nat) (g6:Nat),a=AA L g5 g6∧SS L g5 g6 w') (by kernel_rfl) (by kernel_rfl) (by kernel_rfl) ?_ ⟨?_,?_,?_,?_,?_,?_,?_,?_,trivial⟩ ?_
  ·simp only[hAA.out,hSS.out]
   exact⟨0,0,rfl,y0.drew.unit.unit⟩
  ·rintro L w' K HK a ⟨g5,g6,rfl,hst⟩
   rw[hSS.out] at hst;rw[hAA.out];simp (decide:=true) only[og,oo,Qe,Qj,Qc] at hst ⊢;have bk:=hst.tail.tail.tail.blk;have p0:w'.cell? ⟨w.heap.size,0,none⟩=some (.int .i64 a0):=bk.cell 0;have p1:w'.cell? ⟨w.heap.size,1,none⟩=some (.int .i64 a1):=bk.cell 1;have p2:w'.cell? ⟨w.heap.size,2,none⟩=some (.int .i64 a2):=bk.cell 2;rw[if_pos (by rfl)];go_simp;refine HK.out _ _ ⟨g5,g6,?_,?_⟩
   ·rw[hAA.out]
    kernel_rfl
   ·rw[hSS.out]
    simp (decide:=true) only[og,oo,Qj,Qc];exact hst
  ·rintro L w' K HK a ⟨g5,g6,rfl,hst⟩
   rw[hSS.out] at hst;rw[hAA.out];simp (decide:=true) only[ot,og,oo,Qg,Qe,Qj,Qc] at hst ⊢;rw[if_pos (by rfl)];go_simp;with_reducible refine(kA _).mono ?_;rintro e w2 ⟨rfl,hb⟩;refine HK.out _ _ ⟨g5,g6,?_,?_⟩
   ·rw[hAA.out]
    kernel_rfl
   ·rw[hSS.out]
    simp (decide:=true) only[og,oo,Qj,Qc];exact hst.under hb
  ·rintro L w' K HK a ⟨g5,g6,rfl,hst⟩
   rw[hSS.out] at hst;rw[hAA.out];simp (decide:=true) only[og,oo,Qe,Qj,Qc] at hst ⊢;have bk:=hst.tail.tail.blk;have p0:w'.cell? ⟨w.heap.size+1,0,none⟩=some (.int .i64 b0):=bk.cell 0;have p1:w'.cell? ⟨w.heap.size+1,1,none⟩=some (.int .i64 b1):=bk.cell 1;have p2:w'.cell? ⟨w.heap.size+1,2,none⟩=some (.int .i64 b2):=bk.cell 2;rw[if_pos (by rfl)];go_simp;refine HK.out _ _ ⟨g5,g6,?_,?_⟩
   ·rw[hAA.out]
    kernel_rfl
   ·rw[hSS.out]
    simp (decide:=true) only[og,oo,Qj,Qc];exact hst
  ·rintro L w' K HK a ⟨g5,g6,rfl,hst⟩
   rw[hSS.out] at hst;rw[hAA.out];simp (decide:=true) only[ot,og,oo,Qg,Qe,Qj,Qc] at hst ⊢;rw[if_pos (by rfl)];go_simp;with_reducible refine(kB _).mono ?_;rintro e w2 ⟨rfl,hb⟩;refine HK.out _ _ ⟨g5,g6,?_,?_⟩
   ·rw[hAA.out]
    kernel_rfl
   ·rw[hSS.out]
    simp (decide:=true) only[og,oo,Qj,Qc];exact hst.under hb
  ·rintro L w' K HK a ⟨g5,g6,rfl,hst⟩
   rw[hSS.out] at hst;rw[hAA.out];simp (decide:=true) only[og,oo,Qe,Qj,Qc] at hst ⊢;rw[if_pos (by rfl)];go_simp;refine HK.out _ _ ⟨w'.heap.size,g6,?_,?_⟩
   ·rw[hAA.out]
    kernel_rfl
   ·rw[hSS.out]
    simp (decide:=true) only[ot,og,oo,Qj,Qc];exact(hst.tail.alloc 215 #[.int .i64 0,.int .i64 0,.int .i64 0])
  ·rintro L w' K HK a ⟨g5,g6,rfl,hst⟩
   rw[hSS.out] at hst;rw[hAA.out];simp (decide:=true) only[og,oo,Qe,Qj,Qc] at hst ⊢;rw[if_pos (by rfl)];go_simp;refine HK.out _ _ ⟨g5,w'.heap.size,?_,?_⟩
   ·rw[hAA.out]
    kernel_rfl
   ·rw[hSS.out]
    simp (decide:=true) only[ot,og,oo,Qj,Qc];exact((hst.swap.tail.alloc 215 #[.int .i64 0,.int .i64 0,.int .i64 0]).swap)
  ·rintro L w' K HK a ⟨g5,g6,rfl,hst⟩
   rw[hSS.out] at hst;rw[hAA.out];simp (decide:=true) only[ot,og,Qg,Qj,Qc] at hst ⊢;obtain⟨f0,f1,f2,f3,f4,f5⟩:=G4 hst.blk;rw[if_pos (by rfl)];go_simp;refine HK.out _ _ ⟨g5,g6,?_,?_⟩
   ·rw[hAA.out]
    kernel_rfl
   ·rw[hSS.out]
    simp (decide:=true) only[ot,og,Qj,Qc];exact(((hst.set_ 0 _).set_ 1 _).set_ 2 _)
  ·rintro L w' K HK a ⟨g5,g6,rfl,hst⟩
   rw[hSS.out] at hst;rw[hAA.out];simp (decide:=true) only[ot,og,Qg,Qj,Qc] at hst ⊢;obtain⟨f0,f1,f2,f3,f4,f5⟩:=G4 hst.tail.blk;rw[if_pos (by rfl)];go_simp;refine HK.out _ _ ⟨g5,g6,?_,?_⟩
   ·rw[hAA.out]
    kernel_rfl
   ·rw[hSS.out]
    simp (decide:=true) only[ot,Qj,Qc];exact((((hst.swap.set_ 0 _).set_ 1 _).set_ 2 _).swap)
  ·rintro L a w' ⟨g5,g6,ha,hst⟩
   rw[hSS.out] at hst;rw[hAA.out] at ha;simp (decide:=true) only[ot] at hst ha;subst ha;clear hAA hSS AA SS;simp only[Qj,Qc] at hst;exact⟨rfl,g5,g6,rfl,hst⟩
 case k=>
  rintro pG pJ w1 y1;simp only[Qg];have i0:=y1.blk.cell 0;have i1:=y1.blk.cell 1;have i2:=y1.blk.cell 2;have j0:=y1.tail.blk.cell 0;have j1:=y1.tail.blk.cell 1;have j2:=y1.tail.blk.cell 2;have Y1:=Kd y1.below;have hw1:w1=w1:=rfl;clear y1 kA kB y0 hW0 hw1;have k0:=fun W=>E6 a0 b0 W;have k1:=fun W=>E6 a1 b1 W;have k2:=fun W=>E6 a2 b2 W;generalize hx:Rh a0 b0=x at k0;generalize hy:Rh a1 b1=y at k1;generalize hz:Rh a2 b2=z at k2;have hr:=HR.out;unfold cmpV at hr;rw[hx,hy,hz] at hr;have HR:=Kd hr;clear hr hx hy hz;go_wp2
  go_loopw [13] (fun i wr=>∃(k:Nat),k≤3∧i=.int .i64 k∧Hid (Below w1.heap.size w1 wr)∧VC x y z k) (fun i _=>3-(intOf i).toNat)
  case atStart=>exact⟨0,by omega,rfl,Kd (Below.refl _ _),fun h=>absurd h (by omega),fun h=>absurd h (by omega),fun h=>absurd h (by omega)⟩
  case round=>
   obtain⟨k,hk,rfl,hb,hv⟩:=hrel;have b0':=Wi hb.out i0
   match k,hk with
   | 0,_=>
     have p0:=Wi hb.out i0;have p1:=Wi hb.out j0;have HV:=Kd hv;have HB:=Kd hb.out;clear hv hb
     by_cases hx:x=0
     ·have hn:(x != 0)=false:=by simp[hx]
      have HX:=Kd hx;clear hx;go_wp2_with fail
      go_quiet (first|(go_at_call 136;with_reducible exact Calls.quiet_of_same (k0 _)))
      go_wp2
      go_roundw
      case rel=>exact⟨1,by omega,rfl,Kd (bdN HB.out _),fun _=>HX.out,fun h=>absurd h (by omega),fun h=>absurd h (by omega)⟩
      case measure=>simp[intOf]
     ·have hn:(x != 0)=true:=by simp[hx]
      have hn2:(x==0)=false :=(by simp[hx]);have hr:x=r :=(by have:=HR.out;rw[if_pos hx] at this;exact this);have HE:=Kd hr;clear hr;have HX:=Kd hx;clear hx;go_wp2_with fail
      go_quiet (first|(go_at_call 136;with_reducible exact Calls.quiet_of_same (k0 _)))
      go_wp2;go_ret;exact⟨congrArg (fun z=>Ending.returned (Value.int .i64 z)) HE.out,bdN (Y1.out.trans (HB.out.mono Y1.out.size)) _⟩
   | 1,_=>
     have p0:=Wi hb.out i1;have p1:=Wi hb.out j1;have HV:=Kd hv;have HB:=Kd hb.out;clear hv hb
     by_cases hx:y=0
     ·have hn:(y != 0)=false:=by simp[hx]
      have HX:=Kd hx;clear hx;go_wp2_with fail
      go_quiet (first|(go_at_call 136;with_reducible exact Calls.quiet_of_same (k1 _)))
      go_wp2
      go_roundw
      case rel=>exact⟨2,by omega,rfl,Kd (bdN HB.out _),fun _=>HV.out.1 (by omega),fun _=>HX.out,fun h=>absurd h (by omega)⟩
      case measure=>simp[intOf]
     ·have hn:(y != 0)=true:=by simp[hx]
      have hn2:(y==0)=false :=(by simp[hx]);have hr:y=r :=(by have:=HR.out;rw[if_neg (by rw[HV.out.1 (by omega)];decide)] at this;rw[if_pos hx] at this;exact this);have HE:=Kd hr;clear hr;have HX:=Kd hx;clear hx;go_wp2_with fail
      go_quiet (first|(go_at_call 136;with_reducible exact Calls.quiet_of_same (k1 _)))
      go_wp2;go_ret;exact⟨congrArg (fun z=>Ending.returned (Value.int .i64 z)) HE.out,bdN (Y1.out.trans (HB.out.mono Y1.out.size)) _⟩
   | 2,_=>
     have p0:=Wi hb.out i2;have p1:=Wi hb.out j2;have HV:=Kd hv;have HB:=Kd hb.out;clear hv hb
     by_cases hx:z=0
     ·have hn:(z != 0)=false:=by simp[hx]
      have HX:=Kd hx;clear hx;go_wp2_with fail
      go_quiet (first|(go_at_call 136;with_reducible exact Calls.quiet_of_same (k2 _)))
      go_wp2
      go_roundw
      case rel=>exact⟨3,by omega,rfl,Kd (bdN HB.out _),fun _=>HV.out.1 (by omega),fun _=>HV.out.2.1 (by omega),fun _=>HX.out⟩
      case measure=>simp[intOf]
     ·have hn:(z != 0)=true:=by simp[hx]
      have hn2:(z==0)=false :=(by simp[hx]);have hr:z=r :=(by have:=HR.out;rw[if_neg (by rw[HV.out.1 (by omega)];decide)] at this;rw[if_neg (by rw[HV.out.2.1 (by omega)];decide)] at this;exact this);have HE:=Kd hr;clear hr;have HX:=Kd hx;clear hx;go_wp2_with fail
      go_quiet (first|(go_at_call 136;with_reducible exact Calls.quiet_of_same (k2 _)))
      go_wp2;go_ret;exact⟨congrArg (fun z=>Ending.returned (Value.int .i64 z)) HE.out,bdN (Y1.out.trans (HB.out.mono Y1.out.size)) _⟩
   |3,_ =>have hr:=HR.out;rw[if_neg (by rw[hv.1 (by omega)];decide),if_neg (by rw[hv.2.1 (by omega)];decide),hv.2.2 (by omega)] at hr;subst hr;have HB:=Kd hb.out;clear hv hb;go_wp2;go_ret;exact⟨rfl,Y1.out.trans (HB.out.mono Y1.out.size)⟩
   |k+4,hk=>omega
open Go.RowKit Go.Shelf Go.Sort
section
variable {α:Type} {enc:α→List Value} {k:Nat}
theorem Gs (hk:∀ x,(enc x).length=k):∀ M:List α,(M.flatMap enc).length=M.length*k
 |[]=>by simp
 |a::M=>by rw[List.flatMap_cons,List.length_append,hk,Gs hk M,List.length_cons,Nat.succ_mul,Nat.add_comm]
theorem Gt (hk:∀ x,(enc x).length=k):∀(M:List α) (j i:Nat) (x:α),M[j]?=some x→i<k→(M.flatMap enc)[j*k+i]?=(enc x)[i]?
 |[],_,_,_,h,_=>by cases h
 |a::M,0,i,x,h,hi=>by injection h with h;subst h;rw[List.flatMap_cons,Nat.zero_mul,Nat.zero_add,List.getElem?_append_left (by rw[hk];exact hi)]
 |a::M,j+1,i,x,h,hi=>by rw[List.flatMap_cons,List.getElem?_append_right (by rw[hk,Nat.succ_mul];omega),hk,show (j+1)*k+i-k=j*k+i by rw[Nat.succ_mul];omega];exact Gt hk M j i x h hi
end
section
variable {α:Type} [Inhabited α] {enc:α→List Value} {k:Nat}
theorem U3 (hk:∀ x,(enc x).length=k) (d:Array α):flatK enc k d=(d.toList.flatMap enc).toArray:=by
 have hl:=Gs hk d.toList;have hs:(flatK enc k d).size=(d.toList.flatMap enc).toArray.size:=by simp[Gs hk]
 refine ext_get! hs fun t ht=>?_;have ht':t<d.size*k:=by simpa using ht
 rcases Nat.eq_zero_or_pos k with h|h
 ·subst h
  simp at ht'
 ·have hj:t / k<d.size:=Nat.div_lt_of_lt_mul (by rw[Nat.mul_comm];exact ht')
  have hm:t%k<k:=Nat.mod_lt _ h;have e:=Gt hk d.toList (t / k) (t%k) d[t / k] (by simp[hj]) hm;have et:t / k*k+t%k=t:=by rw[Nat.mul_comm];exact Nat.div_add_mod t k
  rw[et] at e;rw[get_flatK _ _ _ t ht',getElem!_pos d _ hj];have hlt:t<(d.toList.flatMap enc).length:=by rw[hl];simpa using ht'
  rw[getElem!_pos _ t (by simpa using hlt),getElem!_pos _ (t%k) (by rw[hk];exact hm)];rw[List.getElem?_eq_getElem hlt,List.getElem?_eq_getElem (by rw[hk];exact hm)] at e;injection e with e;simpa using e.symm
end
theorem Rl {w:World} {base q:Nat} {e:TypeId} {size g n c:Nat} {xs:List Value} (F:Array Value) (h:w.ownsRow base e size (.slice (some ⟨g,0,none⟩) n c) n xs) (hF:F.size=n*size):
 (putRow id (Sort.ahead w q) g 0 F).ownsRow base e size (.slice (some ⟨g,0,none⟩) n c) n F.toList:=by
 rcases h.2 with⟨e0,_⟩|⟨g',cap',cur,e0,hb,hg,hn,hm,hs,ht⟩
 ·cases e0
 ·injection e0 with e1 _ e3
  injection e1 with e1;injection e1 with e1;subst e1;subst e3;have hle:n*size≤cur.size:=by rw[hs];exact Nat.mul_le_mul_right _ hn
  refine⟨by simpa using hF,.inr ⟨g,c,putCells id 0 F cur,rfl,hb,?_,hn,hm,by simpa [putCells] using hs,?_⟩⟩
  ·simp[putRow,mapBlock,Sort.ahead,Array.getElem?_modify,hg,onCells]
  ·apply List.ext_getElem?
   intro j;rw[List.getElem?_take]
   by_cases hj:j<n*size
   ·have hjc:j<cur.size:=by omega
    have hjF:j<F.size :=(by omega);rw[if_pos hj];simp[putCells,hjc,hjF,getElem!_pos]
   ·rw[if_neg hj,List.getElem?_eq_none (by simpa [hF] using hj)]
theorem Vh {w:World} {base:Nat} {e:TypeId} {size g n c:Nat} {F:Array Value} (h:w.ownsRow base e size (.slice (some ⟨g,0,none⟩) n c) n F.toList):Holds id w g 0 F:=fun j hj=>by
 refine⟨?_,?_⟩
 ·have:=h.cells (g:=g) rfl j F[j] (by simp[hj])
  rw[Addr.add_lit] at this;simpa [getElem!_pos,hj] using this
 ·rcases h.2 with⟨e0,_⟩|⟨g',cap',cur,e0,hb,hg,_⟩
  ·cases e0
  ·injection e0 with e1 _ e3
   injection e1 with e1;injection e1 with e1;subst e1;simp[World.frozen?,hg]
theorem Zx {w:World} {base:Nat} {e:TypeId} {size n:Nat} {v:Value} {xs:List Value} (h:w.ownsRow base e size v n xs) (hn:0<n):∃ g c,v=.slice (some ⟨g,0,none⟩) n c∧g<w.heap.size∧n≤c∧c≤maxLen:=by
 rcases h.2 with⟨_,e0⟩|⟨g,cap,cur,e0,hb,hg,h1,h2,_⟩
 ·omega
 ·exact⟨g,cap,e0,(Array.getElem?_eq_some_iff.1 hg).1,h1,h2⟩
theorem F9 (w:World) (os:Array Obj):Below w.heap.size w (grow w os):=⟨rfl,rfl,rfl,by simp[grow],fun k hk=>by simp[grow,Array.getElem?_append_left hk]⟩
theorem St.sorted {α:Type} [Inhabited α] {enc:α→List Value} {k:Nat} (hk:∀ x,(enc x).length=k) {lo:Nat} {w0 w:World} {Rs:List Q3} {e:TypeId} {g n c m:Nat} {xs:List Value} {d:Array α} {os:Array Obj} (h:St lo w0 w (Qh e k (.slice (some ⟨g,0,none⟩) n c) n xs::Rs)) (hd:d.size=n):
 St lo w0 (sortWorldK enc k w g 0 m d os) (Qh e k (.slice (some ⟨g,0,none⟩) n c) n (d.toList.flatMap enc)::Rs):=by
 have ho:=Rl (q:=m) (flatK enc k d) h.own (by rw[size_flatK,hd])
 have hg:w.grownBy (putRow id (Sort.ahead w m) g 0 (flatK enc k d)) (some g):=⟨rfl,rfl,rfl,by simp[Sort.ahead],fun i _ hi=>by
  have hne:g≠i:=fun e=>hi (by rw[e])
  simp[putRow,mapBlock,Sort.ahead,Array.getElem?_modify,hne]⟩
 rw[U3 hk] at ho hg;have h1:=h.shift ho hg (.inl rfl);have h2:=h1.under (F9 _ os);unfold sortWorldK putRowK;rw[U3 hk];exact h2
theorem O0 {α:Type} [Inhabited α] {d d':Array α} (h:PermIn 0 d.size d d'):d'.toList.Perm d.toList∧d'.size=d.size:=by obtain⟨h1,_,h3⟩:=h;rw[Array.extract_size,show d.size=d'.size from h1.symm,Array.extract_size] at h3;exact⟨h3,h1⟩
theorem Eh {α:Type} [Inhabited α] {lt:α→α→Bool} {d':Array α} {n:Nat} (hn:d'.size=n) (h:SortedIn lt 0 n d'):d'.toList.Pairwise fun x y=>lt y x=false:=by
 rw[List.pairwise_iff_getElem];intro i j hi hj hij;have hi':i<d'.size:=by simpa using hi
 have hj':j<d'.size:=by simpa using hj
 have:=h i j (Nat.zero_le _) hij (by omega);rw[getElem!_pos d' i hi',getElem!_pos d' j hj'] at this;simpa using this
abbrev PSp:={ x:Tm.Sp // 0≤x.1∧x.1≤1000000 }
instance : Inhabited PSp:=⟨(0,0),by decide⟩
def encP (x:PSp):List Value:=G9 x.1
def cfP (x y:PSp):Int:=x.1.1-y.1.1
theorem ltP (x y:PSp):ltOf cfP x y=decide (x.1.1<y.1.1):=by
 unfold ltOf cfP
 by_cases h:x.1.1<y.1.1
 ·rw[decide_eq_true h,decide_eq_true (by omega)]
 ·rw[decide_eq_false h,decide_eq_false (by omega)]
theorem swoP:SWO (ltOf cfP) where
 irrefl x:=by rw[ltP];simp
 trans x y z h1 h2:=by rw[ltP] at *;simp at *;omega
 ntrans x y z h1 h2:=by rw[ltP] at *;simp at *;omega
theorem can1_spec (x y:PSp) (W:World):Calls prog 138 #[.agg #[.int .i64 x.1.1,.int .i64 x.1.2],.agg #[.int .i64 y.1.1,.int .i64 y.1.2]] W fun e w'=>e=.returned (.int .i64 (cfP x y))∧∃ q os',w'=grow (W.drewN q) os':=by obtain⟨⟨a,b⟩,h1,h2⟩:=x;obtain⟨⟨c,d⟩,h3,h4⟩:=y;unfold cfP;dsimp only at h1 h2 h3 h4 ⊢;go_enter func138,ntmps138;go_wp2;go_ret;exact⟨rfl,0,_,by rw[alloc_eq_grow,alloc_eq_grow,grow_grow];rfl⟩
theorem Ag {lo:Nat} {w0 w:World} {Rs:List Q3} {A:Option Addr} {n c:Nat} {l:List Tm.Sp} (h:St lo w0 w (Qh 79 2 (.slice A n c) n (l.flatMap G9)::Rs)) (hl:l.length=n) (hr:∀ x∈l,0≤x.1∧x.1≤1000000) (hm:n<4611686018427387904):
 Calls prog 137 #[.slice A n c,.func (.func 138) #[] #[]] w fun e w'=>e=.returned (.tuple #[])∧∃ l':List Tm.Sp,l'.Perm l∧Tm.Srt l'∧St lo w0 w' (Qh 79 2 (.slice A n c) n (l'.flatMap G9)::Rs):=by
 have hlim:Lib.bitLen n<4611686018427387904:=Nat.lt_of_le_of_lt (Lib.bitLen_le n 62 (by omega) (by omega)) (by omega);have kl:∀ W,Calls prog 104 #[.int .u64 (n:Int)] W fun e w'=>e=.returned (.int .i64 (Lib.bitLen n:Nat))∧w'=W:=fun W=>by have h:=Any.bits_Len Tryz.bitsLen (n:Int) W (by omega) (by omega);rw[Int.toNat_natCast] at h;exact h
 have kp:∀ W,W=w→Calls prog 197 #[.slice A n c,.int .i64 0,.int .i64 (n:Int),.int .i64 (Lib.bitLen n:Nat),.func (.func 138) #[] #[]] W fun e w'=>e=.returned (.tuple #[])∧∃ l':List Tm.Sp,l'.Perm l∧Tm.Srt l'∧St lo w0 w' (Qh 79 2 (.slice A n c) n (l'.flatMap G9)::Rs):=by
  intro W hW;rw[hW];rcases Nat.eq_zero_or_pos n with h0|h0
  ·subst h0
   have e0:=List.eq_nil_of_length_eq_zero hl;subst e0;refine(AnyF.pdqsortCmpFunc_none Tryz.pdqSp A c _ _ w).mono ?_;rintro e w' ⟨rfl,rfl⟩;exact⟨rfl,[],List.Perm.refl _,List.Pairwise.nil,h⟩
  ·obtain⟨g,c',e0,hg,h1,h2⟩:=Zx h.own h0
   injection e0 with e1 _ e3;subst e1 e3;obtain⟨d,hd⟩:∃ d:Array PSp,d.toList.map (·.1)=l:=⟨(l.attach.map fun x=>(⟨x.1,hr x.1 x.2⟩:PSp)).toArray,by simp only[List.map_map,Function.comp_def];exact List.attach_map_subtype_val l⟩;have hds:d.size=n :=(by rw[←hl,←hd];simp);have hfl:∀ M:List PSp,M.flatMap encP=(M.map (·.1)).flatMap G9:=fun M=>by rw[List.flatMap_map];rfl
   have hH:HoldsK encP 2 w g 0 d:=by unfold HoldsK;rw[U3 (enc:=encP) (k:=2) (fun _=>rfl),hfl,hd];exact Vh (by simpa using h.own)
   have k:=AnyQ.pdqsortCmpFunc_all Tryz.pdqSp 2 Tryz.isAgg79 Tryz.sizeOf79 encP cfP 138 #[] swoP g 0 c d w (enters_of func138 (by kernel_rfl) rfl) (fun _ _ _ _ x y=>can1_spec x y _)
    ⟨fun _=>rfl,fun x v hv=>by simp[encP,G9] at hv;rcases hv with rfl|rfl<;>rfl,hH,hg⟩ (n+1) 0 n (Lib.bitLen n) d w (by omega) rfl (SWK.start hH) (Nat.zero_le _) (by omega) (by omega) hlim (Or.inl rfl)
   rw[hds] at k
   change Calls prog 197 _ _ _ at k
   refine k.mono ?_;rintro e w' ⟨rfl,m,os,rfl⟩;have hs:=pdq_sorts (ltOf cfP) swoP d 0 d.size (Lib.bitLen n) true true (Nat.zero_le _) (Nat.le_refl _) (Or.inl rfl);rw[hds] at hs;generalize pdq (ltOf cfP) d 0 n (Lib.bitLen n) true true=d' at hs ⊢;obtain⟨p1,p2⟩:=O0 (d:=d) (d':=d') (by rw[hds];exact hs.1);rw[hds] at p2;refine⟨rfl,d'.toList.map (·.1),?_,?_,?_⟩
   ·rw[←hd]
    exact p1.map _
   ·unfold Tm.Srt
    rw[List.pairwise_map];refine List.Pairwise.imp (fun {x y} hxy=>?_) (Eh p2 hs.2);rw[ltP] at hxy;simp at hxy;exact hxy
   ·rw[←hfl]
    exact h.sorted (enc:=encP) (fun _=>rfl) p2
 clear hl hr;have KP:=Kd kp;clear kp;have wr:IntKind.u64.wrap (n:Int)=n:=by simp[IntKind.wrap,IntKind.bits,IntKind.signed];omega
 go_enter func137,ntmps137;go_wp2_with fail;with_reducible refine(kl _).mono ?_;rintro e w1 ⟨rfl,rfl⟩;clear kl;go_wp2_with fail;with_reducible refine(KP.out _ rfl).mono ?_;rintro e w2 ⟨rfl,hf⟩;have HF:=Kd hf;clear hf;go_wp2
 go_end0
 exact⟨rfl,HF.out⟩
def Ho (acc:List Tm.Sp) (x:Tm.Sp):List Tm.Sp:=match acc.getLast? with
 |none=>[x]
 |some o=>if x.1≤o.2 then acc.dropLast++[(o.1,max o.2 x.2)] else acc++[x]
theorem F6 (Vu:List Tm.Sp) (o x:Tm.Sp):Ho (Vu++[o]) x=if x.1≤o.2 then Vu++[(o.1,max o.2 x.2)] else Vu++[o]++[x]:=by unfold Ho;rw[List.getLast?_concat,List.dropLast_concat]
theorem Et:∀(s Vu:List Tm.Sp) (o:Tm.Sp),s.foldl Ho (Vu++[o])=Vu++Tm.join o s
 |[],_,_=>rfl
 | x::s,Vu,o=>by
   rw[List.foldl_cons,F6,Tm.join]
   split
   ·exact Et s Vu _
   ·rw[Et s (Vu++[o]) x,List.append_assoc]
    rfl
theorem joins_fold:∀ s:List Tm.Sp,s.foldl Ho []=Tm.Fe s
 |[]=>rfl
 |x::s=>Et s [] x
theorem T9 {s l:List Tm.Sp} (h:l.Perm (Tm.Xw s)) (hs:Tm.Srt l):Tm.Fe l=Tm.Q9 s:=by have hp:Tm.Ue l:=fun x hx=>Tm.K4 s x (h.mem_iff.1 hx);refine Tm.Jz.uniq (Tm.Es hs hp) (Tm.Wc s) fun p=>?_;rw[Tm.Er hs hp,Tm.Xx,←Tm.Ep];unfold Tm.mem;exact h.any_eq
theorem own_set {w:World} {base:Nat} {e:TypeId} {size g n c:Nat} {xs:List Value} (h:w.ownsRow base e size (.slice (some ⟨g,0,none⟩) n c) n xs) (j:Nat) (hj:j<n*size) (u:Value):
 (w.setCell ⟨g,j,none⟩ u).ownsRow base e size (.slice (some ⟨g,0,none⟩) n c) n (xs.set j u):=by
 rcases h.2 with⟨e0,_⟩|⟨g',cap',cur,e0,hb,hg,hn,hm,hs,ht⟩
 ·cases e0
 ·injection e0 with e1 _ e3
  injection e1 with e1;injection e1 with e1;subst e1;subst e3;refine⟨by simpa using h.1,.inr ⟨g,c,cur.setIfInBounds j u,rfl,hb,?_,hn,hm,by simpa using hs,?_⟩⟩
  ·simp[World.setCell,Array.getElem?_modify,hg]
  ·rw[←ht]
   simp[List.take_set]
theorem St.put {lo:Nat} {w0 w:World} {Rs:List Q3} {e:TypeId} {size g n c:Nat} {xs:List Value} (h:St lo w0 w (Qh e size (.slice (some ⟨g,0,none⟩) n c) n xs::Rs)) (j:Nat) (hj:j<n*size) (u:Value):
 St lo w0 (w.setCell ⟨g,j,none⟩ u) (Qh e size (.slice (some ⟨g,0,none⟩) n c) n (xs.set j u)::Rs):=by
 refine h.shift (own_set h.own j hj u) ⟨rfl,rfl,rfl,by simp[World.setCell],fun i _ hi=>?_⟩ (.inl rfl);exact Below.heap_setCell w _ u i (fun e=>hi (by rw[e];rfl))
theorem St.cellAt {lo:Nat} {w0 w:World} {Rs:List Q3} {e:TypeId} {size g n c:Nat} {xs:List Value} (h:St lo w0 w (Qh e size (.slice (some ⟨g,0,none⟩) n c) n xs::Rs)) {j:Nat} {u:Value} (hu:xs[j]?=some u):w.cell? ⟨g,j,none⟩=some u∧w.frozen? ⟨g,j,none⟩=false:=by obtain⟨hj,e⟩:=List.getElem?_eq_some_iff.1 hu;have:=Vh (F:=xs.toArray) (by simpa using h.own) j (by simpa using hj);rw[Nat.zero_add] at this;rw[getElem!_pos _ j (by simpa using hj)] at this;simp only[List.getElem_toArray,e] at this;exact this
theorem St.ownLo {lo:Nat} {w0 w:World} {Rs:List Q3} {e:TypeId} {size g n m c:Nat} {xs:List Value} (h:St lo w0 w (Qh e size (.slice (some ⟨g,0,none⟩) m c) n xs::Rs)):lo≤g∧g<w.heap.size:=by obtain⟨F,h1,h2,_⟩:=h.open;exact⟨h2 g (h1.2.1 g rfl),h1.2.2 g (h1.2.1 g rfl)⟩
theorem Eg:∀(L:List Tm.Sp) (j:Nat) (x:Tm.Sp),((L.flatMap G9).set (j*2) (.int .i64 x.1)).set (j*2+1) (.int .i64 x.2)=(L.set j x).flatMap G9
 |[],j,x=>by simp
 |y::L,0,x=>rfl
 |y::L,j+1,x=>by rw[List.set_cons_succ,List.flatMap_cons,List.flatMap_cons,←Eg L j x,show (j+1)*2=j*2+2 by omega];rfl
theorem Sd:∀(L:List Tm.Sp) (j:Nat) (o:Tm.Sp) (b:Int),L[j]?=some o→(L.flatMap G9).set (j*2+1) (.int .i64 b)=(L.set j (o.1,b)).flatMap G9
 |[],j,_,_,h=>by cases h
 |y::L,0,o,b,h=>by injection h with h;subst h;rfl
 |y::L,j+1,o,b,h=>by rw[List.set_cons_succ,List.flatMap_cons,List.flatMap_cons,←Sd L j o b h,show (j+1)*2+1=j*2+1+2 by omega];rfl
theorem Yq (L:List Tm.Sp) (j:Nat) (o:Tm.Sp) (h:L[j]?=some o):(L.flatMap G9)[j*2]?=some (.int .i64 o.1)∧(L.flatMap G9)[j*2+1]?=some (.int .i64 o.2):=by have h0:=Gt (enc:=G9) (k:=2) (fun _=>rfl) L j 0 o h (by decide);have h1:=Gt (enc:=G9) (k:=2) (fun _=>rfl) L j 1 o h (by decide);exact⟨h0,h1⟩
structure Mid (l:List Tm.Sp) (k m:Nat) (row:List Tm.Sp):Prop where
 len:row.length=l.length
 le:m≤k
 acc:row.take m=(l.take k).foldl Ho []
 rest:row.drop k=l.drop k
theorem Mid.start (l:List Tm.Sp):Mid l 0 0 l:=⟨rfl,Nat.le_refl _,rfl,rfl⟩
theorem Pu {l:List Tm.Sp} {k:Nat} {x:Tm.Sp} (h:l[k]?=some x):(l.take (k+1)).foldl Ho []=Ho ((l.take k).foldl Ho []) x:=by have hk:=(List.getElem?_eq_some_iff.1 h).1;have e:=(List.getElem?_eq_some_iff.1 h).2;rw[List.take_succ_eq_append_getElem hk,List.foldl_append,e];rfl
theorem Mid.at {l row:List Tm.Sp} {k m:Nat} (h:Mid l k m row) (hk:k<l.length):row[k]?=l[k]?:=by have:=congrArg (fun t=>t[0]?) h.rest;simpa using this
theorem Mid.push {l row:List Tm.Sp} {k m:Nat} {x:Tm.Sp} (h:Mid l k m row) (hx:l[k]?=some x) (hp:Ho (row.take m) x=row.take m++[x]):Mid l (k+1) (m+1) (row.set m x):=by
 have hk:=(List.getElem?_eq_some_iff.1 hx).1;have hlen:=h.len;have hm:=h.le;refine⟨by rw[List.length_set,hlen],by omega,?_,?_⟩
 ·rw[Pu hx,←h.acc,hp,List.take_succ_eq_append_getElem (by rw[List.length_set];omega),List.take_set_of_le (Nat.le_refl _),List.getElem_set_self]
 ·rw[List.drop_set_of_lt (by omega)]
  have:=congrArg (fun t=>t.drop 1) h.rest;simpa [List.drop_drop] using this
theorem Mid.grow {l row:List Tm.Sp} {k m:Nat} {o x:Tm.Sp} (h:Mid l k (m+1) row) (hx:l[k]?=some x) (ho:row[m]?=some o) (ht:x.1≤o.2):Mid l (k+1) (m+1) (row.set m (o.1,max o.2 x.2)):=by
 have hk:=(List.getElem?_eq_some_iff.1 hx).1;obtain⟨hmr,eo⟩:=List.getElem?_eq_some_iff.1 ho;have hlen:=h.len;have hm:=h.le;have ha:=h.acc;rw[List.take_succ_eq_append_getElem hmr,eo] at ha;refine⟨by rw[List.length_set,hlen],by omega,?_,?_⟩
 ·rw[Pu hx,←ha,F6,if_pos ht,List.take_succ_eq_append_getElem (by rw[List.length_set];omega),List.take_set_of_le (Nat.le_refl _),List.getElem_set_self]
 ·rw[List.drop_set_of_lt (by omega)]
  have:=congrArg (fun t=>t.drop 1) h.rest;simpa [List.drop_drop] using this
theorem Nc {lo:Nat} {w0 w:World} {Rs:List Q3} {e:TypeId} {v:Value} {n size:Nat} {xs:List Value} {P:Program} {ops:Array Oper} {rest:List Oper} {o:Oper} {a:Act} {Q:Exit→Act→World→Prop} (t:TypeId) {z:Value} {bytes:Nat} (us:Array Value) {te:TypeId}
 (h:St lo w0 w (Qh e size v n xs::Rs)) (ht:P.underlying t=some (.slice e)) (hi:(P.info? e).map (fun i=>(i.zero,i.size,i.bytes))=some (some z,size,bytes)) (hzs:z.cells.size=size) (hsz:0<size)
 (hgd:o.guard=none) (s x:Operand) (ho:o.op=.call { callee:=.builtin .append,args:=#[s,x],argTypes:=#[t,t] })
 (hs:a.eval s=v) (hx:a.eval x=.slice (some ⟨w.heap.size,0,none⟩) 1 1) (hus:us.size=size) (hu:∀ u∈us.toList,u.oneCell'=true) (h63:n+1≤maxLen) (hbytes:(n+1)*bytes≤140737488355328)
 (hk:∀ v' w',St lo w0 w' (Qh e size v' (n+1) (xs++us.toList)::Rs)→wpList P ops Q rest (a.put o.dst v') w'):wpList P ops Q (o::rest) a (w.alloc (.cells us te)):=by
 refine W9 t (h.alloc0 _) ht hi hzs hsz hgd s x ho hs ⟨w.heap.size,0,none⟩ 1 1 us.toList hx (by simp[hus]) ?_ hu h63 hbytes hk;intro j y hj;rw[Addr.add_lit,Nat.zero_add];refine((Uc.new w te us).cell j).trans ?_;simpa using hj
theorem Gn:(prog.info? 79).map (fun i=>(i.zero,i.size,i.bytes))=some (some (.agg #[.int .i64 0,.int .i64 0]),2,16):=by kernel_rfl
theorem clips_take (s:List Tm.Sp) (k:Nat) (hk:k<s.length):Tm.Xw (s.take (k+1))=if (Tm.Ga s[k]).1<(Tm.Ga s[k]).2 then Tm.Xw (s.take k)++[Tm.Ga s[k]] else Tm.Xw (s.take k):=by
 rw[List.take_succ_eq_append_getElem hk];unfold Tm.Xw;rw[List.map_append,List.filter_append,List.map_singleton,List.filter_cons,List.filter_nil]
 by_cases h:(Tm.Ga s[k]).1<(Tm.Ga s[k]).2
 ·rw[if_pos h,decide_eq_true h,if_pos rfl]
 ·rw[if_neg h,decide_eq_false h]
  simp
theorem Wh (s:List Tm.Sp) (v:Value) (F:Nat→Prop) (w:World) (h:Qr w F v s) (h40:s.length≤4294967296):
 Calls prog 86 #[v] w fun e w'=>∃ v',e=.returned v'∧Below w.heap.size w w'∧Qr w' (fun k=>w.heap.size≤k) v' (Tm.Q9 s):=by
 obtain⟨A,c,rfl,h1,h2,h3⟩:=h;obtain⟨N,hN⟩:∃ N,s.length=N:=⟨_,rfl⟩;rw[hN] at h1 h40 ⊢;have hm:N≤9223372036854775807:=by omega
 have HM:=Kd2 hN h3;clear hN h3 h1 h2;go_enter func86,ntmps86;go_wp2
 go_loopw [11,3] (fun i o wr=>∃(k n:Nat),k≤N∧i=.int .i64 k∧n≤k∧Hid (n=(Tm.Xw (s.take k)).length)∧Hid (St w.heap.size w wr [Qh 79 2 o n ((Tm.Xw (s.take k)).flatMap G9)])) (fun i _ _=>N-(intOf i).toNat)
 case atStart=>exact⟨0,0,Nat.zero_le _,rfl,Nat.le_refl _,Kd rfl,Kd ((St.nil w).new_own (Below.refl _ w) ⟨rfl,.inl ⟨rfl,rfl⟩⟩)⟩
 case round=>
  obtain⟨k,n,hk,rfl,hnk,hn,hst⟩:=hrel
  by_cases hlt:k<N
  ·have hks:k<s.length:=by rw[HM.out.1];exact hlt
   obtain⟨b,off,rfl,hb,c0,c1⟩:=(HM.out.2.spans) k hks;rw[List.getD_eq_getElem?_getD,List.getElem?_eq_getElem hks,Option.getD_some] at c0 c1;have hct:=clips_take s k hks;rw[←hst.out.below.cell (p:=⟨b,off+k*2,none⟩) hb] at c0;rw[←hst.out.below.cell (p:=⟨b,off+k*2+1,none⟩) hb] at c1;unfold Tm.Ga at hct;generalize s[k]=x at c0 c1 hct;obtain⟨p,q⟩:=x;dsimp only at c0 c1 hct;obtain⟨p',e1⟩:∃ p',max p 0=p':=⟨_,rfl⟩;obtain⟨q',e2⟩:∃ q',min q 1000000=q':=⟨_,rfl⟩;rw[e1,e2] at hct;have i0:(0:Int)≤(k:Int):=Int.natCast_nonneg _;have i1:(k:Int)<(N:Int):=Int.ofNat_lt.2 hlt;have KL:=Kd hlt;have HC:=Kd hct;clear hct hb hks;have m1:(n+1)≤maxLen :=(by unfold maxLen;omega);have m2:(n+1)*16≤140737488355328 :=(by omega);have hst2:=hst.out.alloc 79 #[.int .i64 p',.int .i64 q'];have ST2:=Kd hst2.swap.tail;have ST1:=Kd hst2.tail;clear hst2
   by_cases hpq:p'<q'
   ·go_wp2_with (at_builtin;go_must (refine Nc 41 (te:=79) #[.int .i64 p',.int .i64 q'] ST1.out underlying41 Gn rfl (by decide) rfl _ _ rfl rfl (by show Value.slice (some ⟨wr.heap.size+1,0,none⟩) 1 1=_;simp only[ws]) rfl (by intro u hu;simp at hu;rcases hu with rfl|rfl<;>rfl) m1 m2 ?_);intro v2 w8 h9)
    have H9:=Kd h9;clear h9;go_wp2
    go_roundw
    case rel=>exact⟨k+1,n+1,Nat.succ_le_of_lt KL.out,by go_num,by omega,Kd (by rw[HC.out,if_pos hpq,List.length_append,←hn.out];rfl),Kd (by rw[HC.out,if_pos hpq,List.flatMap_append];exact H9.out)⟩
    case measure=>have:=KL.out;simp[intOf];omega
   ·go_wp2
    go_roundw
    case rel=>exact⟨k+1,n,Nat.succ_le_of_lt KL.out,by go_num,by omega,Kd (by rw[HC.out,if_neg hpq];exact hn.out),Kd (by rw[HC.out,if_neg hpq];exact ST1.out)⟩
    case measure=>have:=KL.out;simp[intOf];omega
  ·obtain rfl:k=N:=Nat.le_antisymm hk (Nat.le_of_not_lt hlt)
   have e0:s.take k=s:=List.take_of_length_le (by rw[HM.out.1];exact Nat.le_refl _);rw[e0] at hn hst;have hge:decide ((k:Int)<(k:Int))=false :=(by simp);have hst:=hst.out;obtain⟨A1,c1,rfl,g1,g2⟩:=Q4 hst.own;have kS:=Ag hst hn.out.symm (fun x hx=>by have:=Tm.K4 s x hx;omega) (by omega);have HN:=Kd2 hn.out hst;clear hst;go_wp2_with fail;with_reducible refine kS.mono ?_;rintro e w2 ⟨rfl,l,hp,hs,h2⟩;have hll:l.length=n :=(by rw[hp.length_eq];exact HN.out.1.symm);have HL:=Kd2 (T9 hp hs) hll;have H2:=Kd h2;clear kS hp hs h2 hll HN hn;have n0:(0:Int)≤(n:Int):=Int.natCast_nonneg _;have n63:n≤4294967296 :=(by omega);go_wp2
   go_loopw [36,6] (fun i o wr=>∃(j m:Nat) (row:List Tm.Sp),j≤n∧m≤j∧i=.int .i64 j∧o=.int .i64 m∧Hid (Mid l j m row)∧Hid (0<j→0<m)∧Hid (St w.heap.size w wr [Qh 79 2 (.slice A1 n c1) n (row.flatMap G9)])) (fun i _ _=>n-(intOf i).toNat)
   case atStart=>exact⟨0,0,l,Nat.zero_le _,Nat.le_refl _,rfl,rfl,Kd (Mid.start l),Kd (fun h=>h),H2⟩
   case round=>
    obtain⟨j,m,row,hj,hmj,rfl,rfl,hM,hP,hst⟩:=hrel
    by_cases hlt:j<n
    ·obtain⟨g,c',eA,hg,-,-⟩:=Zx hst.out.own (by omega)
     injection eA with eA _ ec;subst eA ec;have hjl:j<l.length :=(by rw[HL.out.2];exact hlt);obtain⟨x,hx⟩:∃ x,l[j]?=some x:=⟨_,List.getElem?_eq_getElem hjl⟩;obtain⟨k0,k1⟩:=Yq row j x ((hM.out.at hjl).trans hx);obtain⟨cx0,-⟩:=hst.out.cellAt k0;obtain⟨cx1,-⟩:=hst.out.cellAt k1;obtain⟨x0,x1⟩:=x;dsimp only at cx0 cx1;have hrl:m<row.length :=(by rw[hM.out.len];omega);obtain⟨z,hz⟩:∃ z,row[m]?=some z:=⟨_,List.getElem?_eq_getElem hrl⟩;obtain⟨z0,z1⟩:=Yq row m z hz;obtain⟨W1,hW1⟩:∃ W1,wr.alloc (.cells #[.int .i64 x0,.int .i64 x1] 79)=W1:=⟨_,rfl⟩;have s1:=hst.out.alloc 79 #[.int .i64 x0,.int .i64 x1];rw[hW1] at s1;have y0:=s1.blk.cell 0;have y1:=s1.blk.cell 1;obtain⟨d0,e0⟩:=s1.tail.cellAt z0;obtain⟨d1,e1⟩:=s1.tail.cellAt z1;have i0:(0:Int)≤(j:Int):=Int.natCast_nonneg _;have i1:(j:Int)<(n:Int):=Int.ofNat_lt.2 hlt;have KL:=Kd hlt;have HX:=Kd3 hx hz hrl;have S1:=Kd s1;clear k0 k1 z0 z1 hx hz hjl
     by_cases hj0:j=0
     ·subst hj0
      have hm0:m=0 :=(by omega);subst hm0;go_wp2_with fail
      go_quiet (fail)
      go_wp2
      go_roundw
      case rel =>have hp:Ho (row.take 0) (x0,x1)=row.take 0++[(x0,x1)]:=rfl;refine⟨1,1,row.set 0 (x0,x1),by omega,by omega,rfl,rfl,Kd (hM.out.push HX.out.1 hp),Kd (fun _=>by decide),Kd ?_⟩;rw[←Eg];exact(((S1.out.tail.drewN _).put (0*2) (by omega) _).put (0*2+1) (by omega) _)
      case measure=>simp[intOf];omega
     ·obtain⟨m',rfl⟩:∃ m',m=m'+1:=⟨m-1,by have:=hP.out (by omega);omega⟩
      have hrm:m'<row.length :=(by omega);obtain⟨o,ho⟩:∃ o,row[m']?=some o:=⟨_,List.getElem?_eq_getElem hrm⟩;obtain⟨o0,o1⟩:=Yq row m' o ho;obtain⟨p0,q0⟩:=S1.out.tail.cellAt o0;obtain⟨p1,q1⟩:=S1.out.tail.cellAt o1;obtain⟨oa,ob⟩:=o;dsimp only at p0 p1;have HO:=Kd2 ho hrm;clear o0 o1 ho;have j0':(0:Int)<(j:Int) :=(by omega);have j0n:0<j :=(by omega);have mm:((m'+1:Nat):Int)-1=(m':Int) :=(by omega);have m0':(0:Int)≤(m':Int):=Int.natCast_nonneg _;have m1':(m':Int)<(n:Int) :=(by omega);have mw2:IntKind.i64.wrap ((m':Int)+1-1)=(m':Int) :=(by rw[IntKind.wrap_i64];omega);have mw:IntKind.i64.wrap (m':Int)=(m':Int):=by rw[IntKind.wrap_i64];omega
      by_cases ht:x0≤ob
      ·go_wp2_with fail
       go_quiet (fail)
       go_wp2_with fail;have s2:=S1.out.drewN nq;obtain⟨W2,hW2⟩:∃ W2,W1.drewN nq=W2:=⟨_,rfl⟩;rw[hW2] at s2 ⊢;apply Cc (fun w'=>St w.heap.size w w' [Qa wr.heap.size 79 #[.int .i64 x0,.int .i64 x1],Qh 79 2 (.slice (some ⟨g,0,none⟩) n c1) n ((row.set m' (oa,max ob x1)).flatMap G9)])
       case h=>
        obtain⟨AA,hAA⟩:∃ AA:(Nat→Bool)→Act,Hid (∀ L,AA L={ tmps:=List.toArray ((.slice A k c)::(undef)::(.slice none 0 0)::(.slice (some ⟨g,0,none⟩) n c1)::(undef)::(u5)::(.int .i64 ((m':Int)+1))::(.int .i64 (j:Int))::(.pointer (some ⟨wr.heap.size,0,none⟩))::(.slice A k c)::(.int .i64 (k:Int))::(.int .i64 (k:Int))::(.bool false)::(u13)::(u14)::(u15)::(u16)::(u17)::(u18)::(u19)::(u20)::(u21)::(u22)::(u23)::(u24)::(u25)::(u26)::(u27)::(u28)::(u29)::(u30)::(u31)::(.slice (some ⟨g,0,none⟩) n c1)::(.tuple #[])::(.slice (some ⟨g,0,none⟩) n c1)::(.int .i64 (n:Int))::(.int .i64 (j:Int))::(.bool true)::(.int .i64 (j:Int))::(.pointer (some ⟨g,j*2,none⟩))::(.agg #[.int .i64 x0,.int .i64 x1])::(.int .i64 (j:Int))::(.bool true)::(.bool true)::(.pointer (some ⟨wr.heap.size,0,none⟩))::(.int .i64 (x0:Int))::(.slice (some ⟨g,0,none⟩) n c1)::(.int .i64 ((m':Int)+1))::(.int .i64 (m':Int))::(.pointer (some ⟨g,m'*2,none⟩))::(.pointer (some ⟨g,m'*2+1,none⟩))::(.int .i64 (ob:Int))::(.bool true)::(.bool true)::(Aj (L 0) (.slice (some ⟨g,0,none⟩) n c1) (u54))::(Aj (L 1) (.int .i64 ((m':Int)+1)) (u55))::(Aj (L 2) (.int .i64 (m':Int)) (u56))::(Aj (L 3) (.slice (some ⟨g,0,none⟩) n c1) (u57))::(Aj (L 4) (.int .i64 ((m':Int)+1)) (u58))::(Aj (L 5) (.int .i64 (m':Int)) (u59))::(Aj (L 6) (.pointer (some ⟨g,m'*2,none⟩)) (u60))::(Aj (L 7) (.pointer (some ⟨g,m'*2+1,none⟩)) (u61))::(Aj (L 8) (.int .i64 ob) (u62))::(Aj (L 9) (.pointer (some ⟨wr.heap.size,1,none⟩)) (u63))::(Aj (L 10) (.int .i64 x1) (u64))::(Aj (L 11) (.int .i64 (max ob x1)) (u65))::(Aj (L 12) (.pointer (some ⟨g,m'*2,none⟩)) (u66))::(Aj (L 13) (.pointer (some ⟨g,m'*2+1,none⟩)) (u67))::(u68)::(u69)::(u70)::(u71)::(u72)::(u73)::(u74)::(undef)::(undef)::(undef)::(undef)::[]),defers:=[] }):=⟨_,Kd fun _=>rfl⟩;obtain⟨SS,hSS⟩:∃ SS:(Nat→Bool)→World→Prop,Hid (∀ L w',SS L w'=(St w.heap.size w w' [Qa wr.heap.size 79 #[.int .i64 x0,.int .i64 x1],Qh 79 2 (.slice (some ⟨g,0,none⟩) n c1) n ((row.set m' (Qc (L 14) (oa,max ob x1) (oa,ob))).flatMap G9)])):=⟨_,Kd fun _ _=>rfl⟩;refine Vt (by kernel_rfl) [(0,28673,1),(0,28678,2),(2,28676,6),(0,31176,8),(0,31216,16),(16,31200,48),(56,31168,120),(120,31104,248),(248,30976,504),(0,32256,512),(512,31744,1536),(2040,30720,4088),(4095,28672,8191),(8191,24576,16383),(16383,16384,32767)] 32767 (fun L a w'=>a=AA L∧SS L w') (by kernel_rfl) (by kernel_rfl) (by kernel_rfl) ?_ ⟨?_,?_,?_,?_,?_,?_,?_,?_,?_,?_,?_,?_,?_,?_,?_,trivial⟩ ?_
        ·simp only[hAA.out,hSS.out]
         refine⟨rfl,?_⟩;simp only[Qc];rw[show row.set m' (oa,ob)=row from by rw[←(List.getElem?_eq_some_iff.1 HO.out.1).2];exact List.set_getElem_self _];exact s2.drew
        iterate 8
         ·rintro L w' K HK a ⟨rfl,hst⟩
          rw[hSS.out] at hst;rw[hAA.out];simp (decide:=true) only[ot,og,oo,Qd,Qb,Qc] at hst ⊢;rw[if_pos (by rfl)];go_simp;refine HK.out _ _ ⟨?_,?_⟩
          ·rw[hAA.out]
           kernel_rfl
          ·rw[hSS.out]
           simp (decide:=true) only[og,Qc];exact hst
        ·rintro L w' K HK a ⟨rfl,hst⟩
         rw[hSS.out] at hst;rw[hAA.out];simp (decide:=true) only[ot,og,oo,Qd,Qb,Qc] at hst ⊢;have hlt':=hst.tail.ownLo.2;obtain⟨ro0,ro1⟩:=Yq (row.set m' (oa,ob)) m' (oa,ob) (by rw[List.getElem?_set_self HO.out.2]);obtain⟨p0',q0'⟩:=hst.tail.cellAt ro0;obtain⟨p1',q1'⟩:=hst.tail.cellAt ro1;clear ro0 ro1;rw[if_pos (by rfl)];go_simp;refine HK.out _ _ ⟨?_,?_⟩
         ·rw[hAA.out]
          kernel_rfl
         ·rw[hSS.out]
          simp (decide:=true) only[og,Qc];exact hst
        ·rintro L w' K HK a ⟨rfl,hst⟩
         rw[hSS.out] at hst;rw[hAA.out];simp (decide:=true) only[og,oo,Qb,Qc] at hst ⊢;rw[if_pos (by rfl)];go_simp;refine HK.out _ _ ⟨?_,?_⟩
         ·rw[hAA.out]
          kernel_rfl
         ·rw[hSS.out]
          simp (decide:=true) only[og,Qc];exact hst
        ·rintro L w' K HK a ⟨rfl,hst⟩
         rw[hSS.out] at hst;rw[hAA.out];simp (decide:=true) only[ot,og,oo,Qd,Qb,Qc] at hst ⊢;have bk1:=hst.blk.cell 1;rw[if_pos (by rfl)];go_simp;refine HK.out _ _ ⟨?_,?_⟩
         ·rw[hAA.out]
          kernel_rfl
         ·rw[hSS.out]
          simp (decide:=true) only[og,Qc];exact hst
        iterate 3
         ·rintro L w' K HK a ⟨rfl,hst⟩
          rw[hSS.out] at hst;rw[hAA.out];simp (decide:=true) only[ot,og,oo,Qd,Qb,Qc] at hst ⊢;rw[if_pos (by rfl)];go_simp;refine HK.out _ _ ⟨?_,?_⟩
          ·rw[hAA.out]
           kernel_rfl
          ·rw[hSS.out]
           simp (decide:=true) only[og,Qc];exact hst
        ·rintro L w' K HK a ⟨rfl,hst⟩
         rw[hSS.out] at hst;rw[hAA.out];simp (decide:=true) only[ot,og,Qd,Qc] at hst ⊢;have hlt':=hst.tail.ownLo.2;obtain⟨ro0,ro1⟩:=Yq (row.set m' (oa,ob)) m' (oa,ob) (by rw[List.getElem?_set_self HO.out.2]);obtain⟨p0',q0'⟩:=hst.tail.cellAt ro0;obtain⟨p1',q1'⟩:=hst.tail.cellAt ro1;clear ro0 ro1;rw[if_pos (by rfl)];go_simp;refine HK.out _ _ ⟨?_,?_⟩
         ·rw[hAA.out]
          kernel_rfl
         ·rw[hSS.out]
          simp (decide:=true) only[ot,Qc];exact(by have:=(hst.swap.put (m'*2+1) (by have:=m1';omega) (.int .i64 (max ob x1))).swap;rw[Sd _ m' (oa,ob) _ (by rw[List.getElem?_set_self HO.out.2]),List.set_set] at this;exact this)
        ·rintro L a w' ⟨ha,hst⟩
         rw[hSS.out] at hst;rw[hAA.out] at ha;simp (decide:=true) only[ot] at hst ha;subst ha;clear hAA hSS AA SS;simp only[Qc] at hst;exact⟨rfl,rfl,hst⟩
       case k=>
        intro w3 s3;simp only[Qd];have S3:=Kd s3;clear s3 s2;go_wp2
        go_roundw
        case rel=>exact⟨j+1,m'+1,row.set m' (oa,max ob x1),by omega,by omega,by go_num,by go_num,Kd (hM.out.grow HX.out.1 HO.out.1 ht),Kd (fun _=>by omega),Kd S3.out.tail⟩
        case measure=>have:=KL.out;simp[intOf];omega
      ·go_wp2_with fail
       go_quiet (fail)
       go_wp2
       go_roundw
       case rel =>have hp:Ho (row.take (m'+1)) (x0,x1)=row.take (m'+1)++[(x0,x1)] :=(by rw[List.take_succ_eq_append_getElem HO.out.2,(List.getElem?_eq_some_iff.1 HO.out.1).2,F6,if_neg (by omega:¬ x0≤ob)]);refine⟨j+1,m'+2,row.set (m'+1) (x0,x1),by omega,by omega,by go_num,by go_num,Kd (hM.out.push HX.out.1 hp),Kd (fun _=>by omega),Kd ?_⟩;rw[←Eg];exact(((S1.out.tail.drewN _).put ((m'+1)*2) (by omega) _).put ((m'+1)*2+1) (by omega) _)
       case measure=>have:=KL.out;simp[intOf];omega
    ·obtain rfl:j=n:=Nat.le_antisymm hj (Nat.le_of_not_lt hlt)
     have hge:decide ((j:Int)<(j:Int))=false :=(by simp);have hmc:m≤c1 :=(by omega);have m0':(0:Int)≤(m:Int):=Int.natCast_nonneg _;have m1':(m:Int)≤(j:Int) :=(by omega);have m2':(m:Int)≤(c1:Int) :=(by omega);go_wp2_with fail;go_ret;have hlen:=hM.out.len;have hcan:row.take m=Tm.Q9 s :=(by rw[hM.out.acc,List.take_of_length_le (by rw[HL.out.2];exact Nat.le_refl _),joins_fold,HL.out.1]);have hml:(row.take m).length=m :=(by rw[List.length_take,hlen,HL.out.2];omega);have hmax:m≤maxLen :=(by unfold maxLen;omega);refine⟨_,rfl,hst.out.below,?_⟩;rw[←hcan];refine⟨A1,m,?_,by rw[hml];exact Nat.le_refl _,hmax,?_⟩
     ·rw[hml]
      rfl
     rcases Nat.eq_zero_or_pos m with h0|h0
     ·subst h0
      exact .inl rfl
     ·obtain⟨g,c',eA,hg,-,-⟩:=Zx hst.out.own (by omega)
      injection eA with eA _ ec;subst eA ec;refine .inr ⟨g,0,rfl,hst.out.ownLo.1,hst.out.ownLo.2,fun i hi=>?_⟩
      have hz:(row.flatMap G9)[i]?=some (((row.take m).flatMap G9)[i]):=by
       rw[←List.getElem?_eq_getElem hi]
       conv=>lhs;rw[←List.take_append_drop m row]
       rw[List.flatMap_append,List.getElem?_append_left hi]
      rw[Nat.zero_add];exact(hst.out.cellAt hz).1
open Go.RowKit
def heldV (v:Value):Option (DataW Value×List MemPlace):=some (.held v,[])
def Ni (D:DataW Value) (M:Lit→Option Value):Prop:=Maps.IsMap D∧∀ kl,Maps.has D kl=(M kl).isSome∧∀ z,D.atKey kl z=match M kl with|some v=>.held v|none=>z
open Classical in
noncomputable def Jq (M:Lit→Option Value) (k:Lit) (v:Value):Lit→Option Value:=fun l=>if l=k then some v else M l
theorem Zd (M:Lit→Option Value) (k:Lit) (v:Value):Jq M k v k=some v:=if_pos rfl
theorem Qz {M:Lit→Option Value} {k l:Lit} {v:Value} (h:l≠k):Jq M k v l=M l:=if_neg h
theorem reads_nil:Ni (.map []) (fun _=>none):=⟨Maps.isMap_empty,fun _=>⟨rfl,fun _=>rfl⟩⟩
theorem Ni.put {D:DataW Value} {M:Lit→Option Value} (h:Ni D M) {k:Lit} (hk:WideAt.IsKeyLit k) (v:Value):Ni (D.put k (.held v)) (Jq M k v):=by
 refine⟨h.1.put _ _,fun l=>?_⟩
 by_cases e:l=k
 ·subst e
  rw[Zd];exact⟨Maps.has_put_same h.1 hk _,fun z=>Maps.atKey_put_same h.1 hk _ _⟩
 ·rw[Qz e]
  exact⟨(Maps.has_put_other e _).trans (h.2 l).1,fun z=>(Maps.atKey_put_other e _ _).trans ((h.2 l).2 z)⟩
def Jd (w:World) (kt:TypeId) (b n:Nat) (M:Lit→Option Value):Prop:=∃ D,w.ownsMap prog kt heldV b n D∧Ni D M
def RgAt (w:World) (kt:TypeId) (b r n:Nat) (M:Lit→Option Value) (left:Lit→Bool) (Js:Nat):Prop:=∃ D,w.ranges prog kt heldV b r n D left Js∧Ni D M
section
variable {w w':World} {kt t e:TypeId} {b r n Js:Nat} {M:Lit→Option Value} {left:Lit→Bool} {z v key:Value} {kl:Lit}
theorem Jd.lt (h:Jd w kt b n M):b<w.heap.size:=h.choose_spec.1.lt
theorem Jd.mod {G:Nat→Prop} (h:Jd w kt b n M) (hm:U9 G w w') (hb:¬ G b):Jd w' kt b n M:=by obtain⟨D,h1,h2⟩:=h;have hlt:=h1.lt;obtain⟨es,clock,h3,h4⟩:=h1;exact⟨D,⟨es,clock,(hm.block b hlt hb).trans h3,h4⟩,h2⟩
theorem Jd.keep {F:Nat→Prop} (h:Jd w kt b n M) (hk:Qm F w w') (hb:F b):Jd w' kt b n M:=by obtain⟨D,h1,h2⟩:=h;have hlt:=h1.lt;obtain⟨es,clock,h3,h4⟩:=h1;exact⟨D,⟨es,clock,(hk b hb hlt).2.trans h3,h4⟩,h2⟩
theorem RgAt.mod {G:Nat→Prop} (h:RgAt w kt b r n M left Js) (hm:U9 G w w') (hb:¬ G b) (hr:¬ G r):RgAt w' kt b r n M left Js:=by obtain⟨D,h1,h2⟩:=h;have hl1:=h1.owns.lt;have hl2:=h1.lt;obtain⟨es,clock,since,seen,c0,hb',F,hs,hD,hr',rest⟩:=h1;exact⟨D,⟨es,clock,since,seen,c0,(hm.block b hl1 hb).trans hb',F,hs,hD,(hm.block r hl2 hr).trans hr',rest⟩,h2⟩
theorem Jd.look (h:Jd w kt b n M) (K:Maps.Keyed prog kt) (ht:prog.underlying t=some (.map kt e)) (hz:(zeroValue e).run prog w=.ok z w) (hkey:keyOf prog kt key=some kl):
 (Instr.lookup t (.map (some b)) key false).run prog w=.ok ((M kl).getD z) w:=by
 obtain⟨D,h1,h2⟩:=h;obtain⟨u,ps,hrun,hv⟩:=h1.lookup K ht hz (zd:=.held z) (zp:=[]) rfl hkey;rw[(h2.2 kl).2] at hv;have hv:=(Prod.mk.inj (Option.some.inj hv)).1;rw[hrun]
 cases hM:M kl with
 |none =>rw[hM] at hv;have hv:=DataW.held.inj hv;rw[hv];rfl
 |some x =>rw[hM] at hv;have hv:=DataW.held.inj hv;rw[hv];rfl
theorem Jd.look_ok (h:Jd w kt b n M) (K:Maps.Keyed prog kt) (ht:prog.underlying t=some (.map kt e)) (hz:(zeroValue e).run prog w=.ok z w) (hkey:keyOf prog kt key=some kl):
 (Instr.lookup t (.map (some b)) key true).run prog w=.ok (.tuple #[(M kl).getD z,.bool (M kl).isSome]) w:=by
 obtain⟨D,h1,h2⟩:=h;obtain⟨u,ps,hrun,hv⟩:=h1.look_ok K ht hz (zd:=.held z) (zp:=[]) rfl hkey;rw[(h2.2 kl).1] at hrun;rw[(h2.2 kl).2] at hv;have hv:=(Prod.mk.inj (Option.some.inj hv)).1;rw[hrun]
 cases hM:M kl with
 |none =>rw[hM] at hv;have hv:=DataW.held.inj hv;rw[hv];rfl
 |some x =>rw[hM] at hv;have hv:=DataW.held.inj hv;rw[hv];rfl
theorem Jd.len (h:Jd w kt b n M) (ht:prog.underlying t=some (.map kt e)):∃ c:Nat,c≤n∧∀ ty,(Builtin.len_ #[t] ty #[.map (some b)]).run prog w=.ok (.int .i64 c) w:=by obtain⟨D,h1,h2⟩:=h;exact⟨Maps.size D,h1.size_le,fun ty=>h1.len ht ty⟩
end
def Zw (kt:TypeId) (b n:Nat) (M:Lit→Option Value):Q3 where
 P w F:=Jd w kt b n M∧F=(fun j=>j=b)
 lt h j hj:=by obtain⟨hb,rfl⟩:=h;subst hj;exact hb.lt
 mod h hm hG:=by obtain⟨hb,rfl⟩:=h;exact⟨hb.mod hm (hG _ rfl),rfl⟩
def rgR (kt:TypeId) (b r n:Nat) (M:Lit→Option Value) (left:Lit→Bool) (Js:Nat):Q3 where
 P w F:=RgAt w kt b r n M left Js∧F=(fun j=>j=b∨j=r)
 lt h j hj:=by
  obtain⟨hb,rfl⟩:=h;obtain⟨D,hb,_⟩:=hb;rcases hj with rfl|rfl
  ·exact hb.owns.lt
  ·exact hb.lt
 mod h hm hG:=by obtain⟨hb,rfl⟩:=h;exact⟨hb.mod hm (hG _ (.inl rfl)) (hG _ (.inr rfl)),rfl⟩
section
variable {lo:Nat} {w0 w w':World} {Rs:List Q3} {kt e t:TypeId} {b r n Js:Nat} {M:Lit→Option Value} {left:Lit→Bool}
theorem St.mp (h:St lo w0 w (Zw kt b n M::Rs)):Jd w kt b n M:=by obtain⟨_,_,F,V,h1,_⟩:=h;exact h1.1
theorem St.rg (h:St lo w0 w (rgR kt b r n M left Js::Rs)):RgAt w kt b r n M left Js:=by obtain⟨_,_,F,V,h1,_⟩:=h;exact h1.1
theorem St.mpMade (h:St lo w0 w Rs) (kt:TypeId):St lo w0 (w.alloc (.map #[] 0)) (Zw kt w.heap.size 0 (fun _=>none)::Rs):=
 h.new ((Below.refl _ w).alloc (Nat.le_refl _) _) ⟨⟨_,World.ownsMap_made w _ _ _,reads_nil⟩,rfl⟩ (fun j hj=>by subst hj;exact Nat.le_refl _)
theorem Ph {b:Nat} (hg:w.grownBy w' (some b)):U9 (fun j=>j=b) w w':=⟨hg.os,hg.tape,hg.output,hg.size,fun j hj hn=>hg.block j hj (fun e=>hn (by injection e))⟩
theorem St.unrange (h:St lo w0 w (rgR kt b r n M left Js::Rs)):St lo w0 w (Zw kt b n M::Rs):=by obtain⟨F,h1,h2,h3⟩:=h.open;obtain⟨⟨D,hb,hD⟩,rfl⟩:=h1;exact h3 (F':=fun j=>j=b) (Zw kt b n M) (U9.refl _ w) ⟨⟨D,hb.owns,hD⟩,rfl⟩ (fun j hj=>.inl (.inl hj))
theorem St.mpMono {n':Nat} (h:St lo w0 w (Zw kt b n M::Rs)) (hn:n≤n'):St lo w0 w (Zw kt b n' M::Rs):=h.turn fun F hF=>by obtain⟨⟨D,hb,hD⟩,rfl⟩:=hF;exact⟨⟨D,hb.mono hn,hD⟩,rfl⟩
end
section
variable {lo:Nat} {w0 w w':World} {Rs:List Q3} {kt e t:TypeId} {b r n Js:Nat} {M:Lit→Option Value} {left:Lit→Bool}
 {ops:Array Oper} {rest:List Oper} {o:Oper} {a:Act} {Q:Exit→Act→World→Prop} {key val:Value} {kl:Lit}
end
theorem St.mput {lo:Nat} {w0 w:World} {Rs:List Q3} {kt e:TypeId} {b n:Nat} {M:Lit→Option Value} {key:Value} {kl:Lit} (h:St lo w0 w (Zw kt b n M::Rs)) (t:TypeId) (K:Maps.Keyed prog kt) (ht:prog.underlying t=some (.map kt e)) (hn:n<maxLen) (hkey:keyOf prog kt key=some kl) (val:Value):
 ∃ w',(Instr.mapUpdate t (.map (some b)) key val).run prog w=.ok () w'∧St lo w0 w' (Zw kt b (n+1) (Jq M kl val)::Rs):=by
 obtain⟨F,⟨⟨D,hb,hD⟩,rfl⟩,h2,h3⟩:=h.open;obtain⟨w',hrun,r1,r2⟩:=hb.update K ht hn hkey (val:=val) (d:=.held val) (ps:=[]) rfl;exact⟨w',hrun,h3 (F':=fun j=>j=b) (Zw kt b (n+1) (Jq M kl val)) (Ph r2) ⟨⟨_,r1,hD.put (K.key hkey) val⟩,rfl⟩ (fun j hj=>.inl hj)⟩
theorem St.mrange {lo:Nat} {w0 w:World} {Rs:List Q3} {kt e:TypeId} {b n:Nat} {M:Lit→Option Value} (h:St lo w0 w (Zw kt b n M::Rs)) (t:TypeId) (K:Maps.Keyed prog kt) (ht:prog.underlying t=some (.map kt e)):
 ∃ w' r c,c≤n∧(Instr.range t (.map (some b))).run prog w=.ok (.pointer (some ⟨r,0,none⟩)) w'∧St lo w0 w' (rgR kt b r n M (fun kl=>(M kl).isSome) c::Rs):=by
 obtain⟨F,⟨⟨D,hb,hD⟩,rfl⟩,h2,h3⟩:=h.open;obtain⟨w',hrun,r1,r2,r3⟩:=hb.range K ht;refine⟨w',w.heap.size,Maps.size D,hb.size_le,hrun,h3 (F':=fun j=>j=b∨j=w.heap.size) (rgR kt b w.heap.size n M (fun kl=>(M kl).isSome) (Maps.size D)) (Ph (r2.but _)) ⟨⟨D,?_,hD⟩,rfl⟩ (fun j hj=>?_)⟩
 ·rw[show (fun kl=>(M kl).isSome)=Maps.has D from funext fun kl=>((hD.2 kl).1).symm]
  exact r1
 ·rcases hj with rfl|rfl
  ·exact .inl rfl
  ·exact .inr (Nat.le_refl _)
theorem St.mnext {α:Type} (mkK:α→Value) {lo:Nat} {w0 w:World} {Rs:List Q3} {kt:TypeId} {b r n Js:Nat} {M:Lit→Option Value} {left:Lit→Bool} (h:St lo w0 w (rgR kt b r n M left Js::Rs)) (K:Maps.Keyed prog kt) (invK:∀ key kl,keyOf prog kt key=some kl→∃ x,key=mkK x) (ty:TypeId):
 ((∀ kl,left kl=false)∧(Instr.next (.pointer (some ⟨r,0,none⟩)) false ty).run prog w=.ok (.tuple #[.bool false]) w)∨
 ∃ (x:α) (v:Value) (kl:Lit) (w':World) (cnt':Nat),keyOf prog kt (mkK x)=some kl∧left kl=true∧M kl=some v∧(Instr.next (.pointer (some ⟨r,0,none⟩)) false ty).run prog w=.ok (.tuple #[.bool true,mkK x,v]) w'∧
   (Instr.entry (.pointer (some ⟨r,0,none⟩))).run prog w'=.ok (.tuple #[mkK x,v]) w'∧cnt'<Js∧St lo w0 w' (rgR kt b r n M (fun z=>left z&&!z.sameKey kl) cnt'::Rs):=by
 obtain⟨F,⟨⟨D,hb,hD⟩,rfl⟩,h2,h3⟩:=h.open;rcases hb.next K ty with⟨_,hl,hrun⟩|⟨key,c,kl,y,w',cnt',hkey,hlk,hv,hat,hrun,hrg,hlt,hgr,hsz,hen⟩
 ·exact .inl ⟨hl,hrun⟩
 ·obtain⟨x,rfl⟩:=invK key kl hkey
  have hy:y.1=.held c:=by rw[←Option.some.inj hv]
  have hM:M kl=some c:=by
   cases hM:M kl with
   | none=>
     have h1:=hat (.held undef);have h2:=hat (.map []);rw[(hD.2 kl).2,hM] at h1 h2;rw[←h1] at h2
     cases h2
   |some u =>have h1:=hat (.held undef);rw[(hD.2 kl).2,hM,hy] at h1;have h1:=DataW.held.inj h1;rw[h1]
  have hm:U9 (fun j=>j=b∨j=r) w w':=⟨hgr.os,hgr.tape,hgr.output,hgr.size,fun j hj hn=>hgr.block j hj (fun e=>hn (.inr (by injection e)))⟩;exact .inr ⟨x,c,kl,w',cnt',hkey,hlk,hM,hrun,hen,hlt,h3 (F':=fun j=>j=b∨j=r) (rgR kt b r n M (fun z=>left z&&!z.sameKey kl) cnt') hm ⟨⟨D,hrg,hD⟩,rfl⟩ (fun j hj=>.inl hj)⟩
theorem St.madeRow {lo:Nat} {w0 w:World} {Rs:List Q3} (h:St lo w0 w Rs) (t e:TypeId) {z:Value} {size bytes:Nat} (h1:prog.underlying t=some (.slice e)) (hi:(prog.info? e).map (fun i=>(i.zero,i.size,i.bytes))=some (some z,size,bytes)) (n:Nat) (b2:bytes*n≤281474976710656) (b3:n≤maxLen):
 ∃ w',(Instr.makeSlice t (.int .i64 0) (.int .i64 n)).run prog w=.ok (.slice (some ⟨w.heap.size,0,none⟩) 0 n) w'∧St lo w0 w' (Qh e size (.slice (some ⟨w.heap.size,0,none⟩) 0 n) 0 []::Rs):=by
 obtain⟨i,hi',i1,i2,i3⟩:=info_parts hi;obtain⟨w',hrun,r1,r2⟩:=run_make_own (P:=prog) w w.heap.size t e i z size h1 hi' i1 i2 .i64 .i64 n (by rw[i3];exact b2) b3 (Nat.le_refl _);exact⟨w',hrun,h.new_own ((Below.refl _ w).grown r2 (Nat.le_refl _) (fun k e=>by cases e)) r1⟩
theorem St.left_eq {lo:Nat} {w0 w:World} {Rs:List Q3} {kt:TypeId} {b r n Js:Nat} {M:Lit→Option Value} {left:Lit→Bool} (h:St lo w0 w (rgR kt b r n M left Js::Rs)):w.rangeLeft b r=Js:=by obtain⟨D,h1,_⟩:=h.rg;exact h1.left_eq
theorem Tg:Maps.Keyed prog 3:=Maps.int_keyed underlying3
theorem J8:Maps.Keyed prog 9:=Maps.string_keyed underlying9
theorem Uj (x:Int) (h : -9223372036854775808≤x∧x≤9223372036854775807):keyOf prog 3 (.int .i64 x)=some (.int .i64 x):=Maps.keyOf_int_mk underlying3 (by exact WalkArith.wf_i64 (by omega))
theorem Zb (s:List UInt8) (h:s.length≤maxLen):keyOf prog 9 (.string ⟨s.toArray⟩)=some (.string s):=by
 have hs:(⟨s.toArray⟩:ByteArray).size≤maxLen:=by rw[Zf];exact h
 simp[keyOf,underlying9,mapKey,hs]
theorem invI (key:Value) (kl:Lit) (h:keyOf prog 3 key=some kl):∃ x,key=Value.int .i64 x:=by obtain⟨x,ex,_⟩:=Maps.keyOf_int_inv underlying3 h;exact⟨x,ex⟩
theorem invS (key:Value) (kl:Lit) (h:keyOf prog 9 key=some kl):∃ s:List UInt8,key=Value.string ⟨s.toArray⟩:=by
 cases key<;>simp[keyOf,underlying9,mapKey] at h
 rename_i s
 exact⟨s.data.toList,by simp⟩
theorem Tj {s:List UInt8} {kl:Lit} (h:keyOf prog 9 (.string ⟨s.toArray⟩)=some kl):kl=.string s∧s.length≤maxLen:=by simp[keyOf,underlying9,mapKey] at h;obtain⟨h1,h2⟩:=h;rw[Zf] at h1;exact⟨h2.symm,h1⟩
theorem invI_lit {x:Int} {kl:Lit} (h:keyOf prog 3 (.int .i64 x)=some kl):kl=.int .i64 x:=by obtain⟨y,ex,e2,_⟩:=Maps.keyOf_int_inv underlying3 h;rw[e2,(Value.int.inj ex).2]
end Go.Proofs.YtiefajiebebgoaaGreatDoor
namespace Go.Proofs.YtiefajiebebgoaaGreatDoor.Tm
set_option linter.unusedVariables false
theorem T5:∀(X Y:List Sp) (k:Int),Fj (X++Y) k=Fj X k+Fj Y k
 |[],Y,k=>by show Fj Y k=0+Fj Y k;omega
 |x::X,Y,k=>by show _+Fj (X++Y) k=_+Fj X k+Fj Y k;rw[T5 X Y k];omega
theorem chg_one (x:Sp) (k:Int):Fj [x] k=(if x.1=k then 1 else 0)-(if x.2=k then 1 else 0):=by show _+(0:Int)=_;omega
theorem chg_none:∀(X:List Sp) (k:Int),k∉J4 X→Fj X k=0
 |[],_,_=>rfl
 |x::X,k,h=>by rw[J4,Um,Um] at h;show _+Fj X k=0;rw[chg_none X k (fun hk=>h (.inr (.inr hk))),if_neg (fun e=>h (.inl e.symm)),if_neg (fun e=>h (.inr (.inl e.symm)))];rfl
theorem E9:∀(X:List Sp) (k:Int),-(X.length:Int)≤Fj X k∧Fj X k≤X.length
 |[],_=>⟨Int.le_refl _,Int.le_refl _⟩
 | x::X,k=>by
   have:=E9 X k;show -(((X.length+1:Nat)):Int)≤_+Fj X k∧_+Fj X k≤((X.length+1:Nat):Int)
   split<;>split<;>omega
theorem P8:∀(X:List Sp) (k:Int),0≤Js X k∧Js X k≤X.length
 |[],_=>⟨Int.le_refl _,Int.le_refl _⟩
 | x::X,k=>by
   have:=P8 X k;show 0≤_+Js X k∧_+Js X k≤((X.length+1:Nat):Int)
   split<;>omega
theorem P6 (X:List Sp) (x:Sp) (k:Int):k∈J4 (X++[x])↔k∈J4 X∨k=x.1∨k=x.2:=by
 rw[Yw,Yw];constructor
 ·rintro (h|⟨y,hy,h⟩)
  ·exact .inl (.inl h)
  ·rcases List.mem_append.1 hy with hy|hy
   ·exact .inl (.inr ⟨y,hy,h⟩)
   ·rw[List.mem_singleton.1 hy] at h
    exact .inr h
 ·rintro ((h|⟨y,hy,h⟩)|h)
  ·exact .inl h
  ·exact .inr ⟨y,List.mem_append_left _ hy,h⟩
  ·exact .inr ⟨x,List.mem_append_right _ (List.mem_singleton.2 rfl),h⟩
theorem ends_range (X:List Sp) (hp:Ue X):∀ k∈J4 X,0≤k∧k≤1000000:=fun z hz=>by
 rcases (Yw z X).1 hz with (h|h)|⟨x,hx,h⟩
 ·omega
 ·omega
 ·have:=hp x hx
  omega
theorem Uf.at {X:List Sp}:∀ {E:List Int},Uf X E→∀(k:Nat) (a b:Int),E[k]?=some a→E[k+1]?=some b→a<b∧∀ x∈X,(x.1≤a∨b≤x.1)∧(x.2≤a∨b≤x.2)
 |[],_,_,_,_,h,_=>by cases h
 |[_],_,k,_,_,_,h=>by simp at h
 |a::b::r,h,0,c,d,h1,h2=>by simp at h1 h2;rw[←h1,←h2];exact⟨h.1,h.2.1⟩
 |a::b::r,h,k+1,c,d,h1,h2=>Uf.at h.2.2 k c d (by simpa using h1) (by simpa using h2)
theorem cnt_first (X:List Sp) (hp:Ue X):Js X 0=Fj X 0:=by
 induction X with
 |nil=>rfl
 | cons x X ih=>
   have hx:=hp x (List.mem_cons_self ..);show _+Js X 0=_+Fj X 0;rw[ih (fun y hy=>hp y (List.mem_cons_of_mem _ hy))]
   by_cases h:x.1=0
   ·rw[if_pos (by omega),if_pos h,if_neg (by omega:¬ x.2=0)]
    omega
   ·rw[if_neg (by omega),if_neg h,if_neg (by omega:¬ x.2=0)]
    omega
theorem cnt_next (X:List Sp) (hp:Ue X) {E:List Int} (h:Uf X E) {k:Nat} {a b:Int} (ha:E[k]?=some a) (hb:E[k+1]?=some b):Js X b=Js X a+Fj X b:=by obtain⟨h1,h2⟩:=h.at k a b ha hb;rw[←R0 X b (fun x hx=>(hp x hx).2.1),←R0 X a (fun x hx=>(hp x hx).2.1)];exact Ln X a b h1 h2
def Vu (X:List Sp) (E:List Int):Nat→Int
 |0=>0
 |k+1=>Js X (E.getD k 0)
theorem Ch (X:List Sp) (E:List Int) {k:Nat} {a:Int} (h:E[k]?=some a):Vu X E (k+1)=Js X a:=by show Js X (E.getD k 0)=_;rw[List.getD_eq_getElem?_getD,h];rfl
theorem pre_step (X:List Sp) (hp:Ue X) {E:List Int} (h:Uf X E) (h0:E[0]?=some 0) {k:Nat} {a:Int} (ha:E[k]?=some a):Vu X E k+Fj X a=Js X a:=by
 cases k with
 |zero =>rw[h0] at ha;obtain rfl:=Option.some.inj ha;show 0+Fj X 0=_;rw[cnt_first X hp];omega
 |succ k =>obtain⟨b,hb⟩:∃ b,E[k]?=some b:=⟨_,List.getElem?_eq_getElem (by have:=(List.getElem?_eq_some_iff.1 ha).1;omega)⟩;rw[Ch X E hb,cnt_next X hp h hb ha]
theorem L9 (X:List Sp) (E:List Int) (k:Nat):0≤Vu X E k∧Vu X E k≤X.length:=by
 cases k with
 |zero=>exact⟨Int.le_refl _,Int.natCast_nonneg _⟩
 |succ k=>exact P8 X _
theorem Fm (keep:Int→Bool) (X:List Sp) (a b:Int):∀ l:List Int,Jj keep X (l++[a]++[b])=Jj keep X (l++[a])++if keep (Js X a)=true then [(a,b)] else []
 | []=>by
   show (if keep (Js X a)=true then _ else _)=_
   split<;>rfl
 | [c]=>by
   show (if keep (Js X c)=true then (c,a)::Jj keep X ([]++[a]++[b]) else Jj keep X ([]++[a]++[b]))=(if keep (Js X c)=true then (c,a)::Jj keep X ([]++[a]) else Jj keep X ([]++[a]))++_;rw[Fm keep X a b []]
   split<;>rfl
 | c::d::l=>by
   show (if keep (Js X c)=true then (c,d)::Jj keep X (d::l++[a]++[b]) else Jj keep X (d::l++[a]++[b]))=(if keep (Js X c)=true then (c,d)::Jj keep X (d::l++[a]) else Jj keep X (d::l++[a]))++_;rw[Fm keep X a b (d::l)]
   split<;>rfl
theorem sweep_take (keep:Int→Bool) (X:List Sp) (E:List Int) (k:Nat) (a b:Int) (ha:E[k]?=some a) (hb:E[k+1]?=some b):Jj keep X (E.take (k+2))=Jj keep X (E.take (k+1))++if keep (Js X a)=true then [(a,b)] else []:=by obtain⟨h1,e1⟩:=List.getElem?_eq_some_iff.1 ha;obtain⟨h2,e2⟩:=List.getElem?_eq_some_iff.1 hb;rw[List.take_succ_eq_append_getElem h2,List.take_succ_eq_append_getElem h1,e1,e2];exact Fm keep X a b _
theorem Lp (keep:Int→Bool) (X:List Sp) (E:List Int):Jj keep X (E.take 1)=[]:=by
 cases E with
 |nil=>rfl
 |cons a E=>rfl
theorem clips_prop {s:List Sp} (h:Ue s):Xw s=s:=by
 have h1:s.map Ga=s:=by
  conv=>rhs;rw[←List.map_id s]
  refine List.map_congr_left fun x hx=>?_;have:=h x hx;obtain⟨a,b⟩:=x;unfold Ga;dsimp only at this ⊢;rw[Int.max_eq_left (by omega),Int.min_eq_left (by omega)];rfl
 unfold Xw;rw[h1,List.filter_eq_self];intro x hx;have:=h x hx;simp only[decide_eq_true_eq];exact this.2.1
theorem inc_nodup {l:List Int} (h:IncB l):l.Nodup:=List.Pairwise.imp (fun {a b} hab e=>by omega) h
theorem Le {r:List Int} (X:List Sp) (hn:r.Nodup) (hm:∀ k,k∈r↔k∈J4 X):(r.mergeSort fun x y=>decide (x≤y))=J4 X:=by have hp:(r.mergeSort fun x y=>decide (x≤y)).Perm (J4 X):=(List.mergeSort_perm _ _).trans ((List.perm_ext_iff_of_nodup hn (inc_nodup (Dp X))).2 hm);refine List.Perm.eq_of_pairwise (le:=fun x y:Int=>x≤y) (fun a b _ _ h1 h2=>Int.le_antisymm h1 h2) ?_ (List.Pairwise.imp (fun h=>Int.le_of_lt h) (Dp X)) hp;have:=List.pairwise_mergeSort (le:=fun x y:Int=>decide (x≤y)) (fun a b c h1 h2=>by simp at *;omega) (fun a b=>by simp;omega) r;exact List.Pairwise.imp (fun h=>by simpa using h) this
theorem Jz.len:∀ {s:List Sp} {b:Int},Jz b s→b≤1000001→2*(s.length:Int)≤1000001-b
 |[],b,_,h=>by simp;omega
 |x::s,b,h,hb=>by obtain⟨h1,h2,h3,h4⟩:=h;have:=Jz.len h4 (by omega);rw[List.length_cons];omega
theorem Nb (s:List Sp):(Q9 s).length≤500001:=by have:=(Wc s).len (by decide);omega
end Go.Proofs.YtiefajiebebgoaaGreatDoor.Tm
namespace Go.Proofs.YtiefajiebebgoaaGreatDoor
set_option linter.unusedVariables false
open Go.RowKit
section
variable {lo:Nat} {w0 w w':World} {Rs:List Q3} {e:TypeId} {v:Value} {n size:Nat} {xs:List Value}
theorem append_keep {P:Program} (w:World) (base:Nat) (t ty e:TypeId) (i:TypeInfo) (z:Value) (size bytes:Nat) (ht:P.underlying t=some (.slice e)) (hi:P.info? e=some i) (hz:i.zero=some z)
 (hsize:i.size=size) (hby:i.bytes=bytes) (g n cap:Nat) (xs:List Value) (hown:w.ownsRow base e size (.slice (some ⟨g,0,none⟩) n cap) n xs)
 (a:Addr) (m c:Nat) (news:List Value) (hl:news.length=m*size) (hnews:∀ j u,news[j]?=some u→w.cell? (a.add j)=some u) (h1:∀ u∈news,u.oneCell'=true)
 (h63:n+m≤maxLen) (hbytes:(n+m)*bytes≤140737488355328) (v':Value) (w':World) (hrun:(Builtin.append_ #[t,t] ty #[.slice (some ⟨g,0,none⟩) n cap,.slice (some a) m c]).run P w=.ok v' w')
 (j:Nat) (u:Value) (hj:xs[j]?=some u):w'.cell? ⟨g,j,none⟩=some u:=by
 subst hsize
 subst hby
 have h64:=h63;unfold maxLen at h64;rcases hown.2 with⟨he,_⟩|⟨g',cap',cur,he,hb,hg,hnc,hcm,hcs,htake⟩
 ·cases he
 ·injection he with he1 he2 he3
  injection he1 with he1;injection he1 with he1;subst he1 he3
  by_cases hroom:n+m≤cap
  ·have hfit:n*i.size+news.length≤cur.size:=by rw[hl,hcs,←Nat.add_mul];exact Nat.mul_le_mul_right _ hroom
   have hr:=run_append_room (P:=P) w t ty e i ht hi g n cap cur hg a m c news hl hnews h1 hroom hfit;rw[hr] at hrun;injection hrun with _ hw;rw[←hw,cell_setRow_same w g j cur _ e _ hg,htake];have hjl:j<xs.length:=(List.getElem?_eq_some_iff.1 hj).1;rw[List.getElem?_toArray,List.append_assoc,List.getElem?_append_left hjl,hj]
  ·have holds:∀ j u,xs[j]?=some u→w.cell? ((⟨g,0,none⟩:Addr).add j)=some u:=hown.cells (g:=g) rfl
   have hr:=run_append_grow (P:=P) w t ty e i z ht hi hz ⟨g,0,none⟩ n cap xs hown.1 holds a m c news hl hnews (by omega) (by omega) (growslice_fits (by omega) hbytes);rw[hr] at hrun;injection hrun with _ hw;have:=holds j u hj;rw[Addr.add_lit,Nat.zero_add] at this;rw[←hw];exact(World.cell?_of_block (Below.heap_alloc w.drew _ g (World.block_lt_of_cell? w _ this))).trans this
theorem Is {P:Program} {w:World} {o:Oper} {a:Act} {K:Act→World→Prop} {Q:Exit→Act→World→Prop} (t:TypeId) {z:Value} {bytes:Nat}
 (h:St lo w0 w (Qh e size v n xs::Rs)) (ht:P.underlying t=some (.slice e)) (hi:(P.info? e).map (fun i=>(i.zero,i.size,i.bytes))=some (some z,size,bytes)) (hzs:z.cells.size=size) (hsz:0<size)
 (s x:Operand) (ho:o.op=.call { callee:=.builtin .append,args:=#[s,x],argTypes:=#[t,t] })
 (hs:a.eval s=v) (ad:Addr) (m c:Nat) (news:List Value) (hx:a.eval x=.slice (some ad) m c) (hl:news.length=m*size) (hnews:∀ j u,news[j]?=some u→w.cell? (ad.add j)=some u) (h1:∀ u∈news,u.oneCell'=true)
 (hm:0<m) (h63:n+m≤maxLen) (hbytes:(n+m)*bytes≤140737488355328)
 (hk:∀ g cap w',St lo w0 w' (Qh e size (.slice (some ⟨g,0,none⟩) (n+m) cap) (n+m) (xs++news)::Rs)→(∀ g0 c0,v=.slice (some ⟨g0,0,none⟩) n c0→∀ j u,xs[j]?=some u→w'.cell? ⟨g0,j,none⟩=some u)→w.grownBy w' v.ownBlock→K (a.put o.dst (.slice (some ⟨g,0,none⟩) (n+m) cap)) w'):
 Oper.wp P o a w K Q:=by
 obtain⟨i,hi',i1,i2,i3⟩:=info_parts hi;obtain⟨g,cap,w',hr,h2,h3,h4,h5⟩:=run_append_lies (P:=P) w t o.type 0 e i z size bytes ht hi' i1 i2 i3 hzs hsz v n xs h.own ad m c news hl hnews h1 hm h63 hbytes (Nat.zero_le _) w.heap.size rfl;unfold Oper.wp execOp;simp only[ho,resolve,invoke,builtin,Sem.run_bind,Sem.run_pure,Result.andThen_ok,List.map_toArray,List.map_cons,List.map_nil,hs,hx,hr];refine hk g cap w' (h.shift h2 h3 ?_) ?_ h3
 ·rcases h4 with r3|r3
  ·left;rw[r3];rfl
  ·right;subst r3;rfl
 ·intro g0 c0 hv j u hj
  subst hv;exact append_keep w 0 t o.type e i z size bytes ht hi' i1 i2 i3 g0 n c0 xs h.own ad m c news hl hnews h1 h63 hbytes _ w' hr j u hj
theorem stepO {P:Program} {w:World} {ops:Array Oper} {o:Oper} {a:Act} {K:Act→World→Prop} {Q:Exit→Act→World→Prop} {E:Prop} (t:TypeId) {z:Value} {bytes:Nat} {u:Value} {te:TypeId}
 (h:St lo w0 w (Qh e 1 v n xs::Rs)) (ht:P.underlying t=some (.slice e)) (hi:(P.info? e).map (fun i=>(i.zero,i.size,i.bytes))=some (some z,1,bytes)) (hzs:z.cells.size=1)
 (s x:Operand) (ho:o.op=.call { callee:=.builtin .append,args:=#[s,x],argTypes:=#[t,t] }) (hgd:o.guard=none)
 (hs:a.eval s=v) (hx:a.eval x=.slice (some ⟨w.heap.size,0,none⟩) 1 1) (hu:u.oneCell'=true) (h63:n+1≤maxLen) (hbytes:(n+1)*bytes≤140737488355328)
 (hk:∀ g cap w',St lo w0 w' (Qh e 1 (.slice (some ⟨g,0,none⟩) (n+1) cap) (n+1) (xs++[u])::Rs)→(∀ g0 c0,v=.slice (some ⟨g0,0,none⟩) n c0→∀ j u,xs[j]?=some u→w'.cell? ⟨g0,j,none⟩=some u)→K (a.put o.dst (.slice (some ⟨g,0,none⟩) (n+1) cap)) w'):
 if Region.wanted o (yielded ops a.tmps)=true then Oper.wp P o a (w.alloc (.cells #[u] te)).drew K Q else E:=by
 rw[if_pos (by unfold Region.wanted;rw[hgd])];refine Is t (h.alloc0 _).drew ht hi hzs (by decide) s x ho hs ⟨w.heap.size,0,none⟩ 1 1 [u] hx rfl ?_ ?_ (by decide) h63 hbytes (fun g cap w' r1 r2 _=>hk g cap w' r1 r2)
 ·intro j y hj
  match j,hj with
  |0,hj=>simp at hj;subst hj;exact(Uc.new w te #[_]).cell 0
 ·intro y hy;simp at hy;subst hy;exact hu
theorem Hk {P:Program} {w:World} {ops:Array Oper} {o:Oper} {a:Act} {K:Act→World→Prop} {Q:Exit→Act→World→Prop} {E:Prop} (t:TypeId) {z:Value} {bytes m:Nat} (us:Array Value) {te:TypeId}
 (h:St lo w0 w (Qh e 1 v n xs::Rs)) (ht:P.underlying t=some (.slice e)) (hi:(P.info? e).map (fun i=>(i.zero,i.size,i.bytes))=some (some z,1,bytes)) (hzs:z.cells.size=1)
 (s x:Operand) (ho:o.op=.call { callee:=.builtin .append,args:=#[s,x],argTypes:=#[t,t] }) (hgd:o.guard=none)
 (hs:a.eval s=v) (hx:a.eval x=.slice (some ⟨w.heap.size,0,none⟩) m m) (hm:us.size=m) (hm0:0<m) (hu:∀ u∈us.toList,u.oneCell'=true) (h63:n+m≤maxLen) (hbytes:(n+m)*bytes≤140737488355328)
 (hk:∀ g cap w',St lo w0 w' (Qh e 1 (.slice (some ⟨g,0,none⟩) (n+m) cap) (n+m) (xs++us.toList)::Rs)→(∀ g0 c0,v=.slice (some ⟨g0,0,none⟩) n c0→∀ j u,xs[j]?=some u→w'.cell? ⟨g0,j,none⟩=some u)→K (a.put o.dst (.slice (some ⟨g,0,none⟩) (n+m) cap)) w'):
 if Region.wanted o (yielded ops a.tmps)=true then Oper.wp P o a (w.alloc (.cells us te)).drew K Q else E:=by
 rw[if_pos (by unfold Region.wanted;rw[hgd])];refine Is t (h.alloc0 _).drew ht hi hzs (by decide) s x ho hs ⟨w.heap.size,0,none⟩ m m us.toList hx (by simpa using hm) ?_ hu hm0 h63 hbytes (fun g cap w' r1 r2 _=>hk g cap w' r1 r2);intro j y hj;rw[Addr.add_lit,Nat.zero_add];refine((Uc.new w te us).cell j).trans ?_;simpa using hj
end
end Go.Proofs.YtiefajiebebgoaaGreatDoor
namespace Go.Proofs
open Go.Shelf
def Tryz.sortI_ren:Go.Shelf.Ren:=⟨fun|5=>69|8=>104|7=>117|19=>162|20=>163|10=>174|11=>175|12=>176|13=>177|14=>178|15=>179|16=>180|17=>181|18=>182|30=>225|31=>210|32=>211|33=>226|34=>227|35=>196|40=>263|n=>n,fun|23=>54|25=>3|3=>3|32=>196|22=>54|0=>0|44=>261|46=>263|4=>4|36=>255|35=>254|41=>112|5=>5|9=>9|53=>311|57=>315|63=>346|64=>347|n=>n,fun|n=>n⟩
theorem Tryz.sortI:Go.Proofs.SlLaysM.n5 prog Tryz.sortI_ren:={
 mixed:=by kernel_rfl
 f5:=⟨Tryz.f69.name,by decide,func69.trans (congrArg some (by kernel_rfl))⟩
 f7:=⟨Tryz.f117.name,by decide,func117.trans (congrArg some (by kernel_rfl))⟩
 f8:=func104.trans (congrArg some (by kernel_rfl))
 f10:=⟨Tryz.f174.name,by decide,func174.trans (congrArg some (by kernel_rfl))⟩
 f11:=⟨Tryz.f175.name,by decide,func175.trans (congrArg some (by kernel_rfl))⟩
 f12:=⟨Tryz.f176.name,by decide,func176.trans (congrArg some (by kernel_rfl))⟩
 f13:=⟨Tryz.f177.name,by decide,func177.trans (congrArg some (by kernel_rfl))⟩
 f14:=⟨Tryz.f178.name,by decide,func178.trans (congrArg some (by kernel_rfl))⟩
 f15:=⟨Tryz.f179.name,by decide,func179.trans (congrArg some (by kernel_rfl))⟩
 f16:=⟨Tryz.f180.name,by decide,func180.trans (congrArg some (by kernel_rfl))⟩
 f17:=⟨Tryz.f181.name,by decide,func181.trans (congrArg some (by kernel_rfl))⟩
 f18:=⟨Tryz.f182.name,by decide,func182.trans (congrArg some (by kernel_rfl))⟩
 f19:=func162.trans (congrArg some (by kernel_rfl))
 f20:=func163.trans (congrArg some (by kernel_rfl))
 f30:=⟨Tryz.f225.name,by decide,func225.trans (congrArg some (by kernel_rfl))⟩
 f31:=func210.trans (congrArg some (by kernel_rfl))
 f32:=func211.trans (congrArg some (by kernel_rfl))
 f33:=⟨Tryz.f226.name,by decide,func226.trans (congrArg some (by kernel_rfl))⟩
 f34:=⟨Tryz.f227.name,by decide,func227.trans (congrArg some (by kernel_rfl))⟩
 f35:=⟨Tryz.f196.name,by decide,func196.trans (congrArg some (by kernel_rfl))⟩
 f40:=⟨Tryz.f263.name,by decide,func263.trans (congrArg some (by kernel_rfl))⟩
 t0:=underlying0
 a0:=Tryz.isAgg0
 z0:=Tryz.sizeOf0
 v0:=Tryz.zeroValue0
 t3:=underlying3
 a3:=Tryz.isAgg3
 z3:=Tryz.sizeOf3
 v3:=Tryz.zeroValue3
 t4:=underlying4
 a4:=Tryz.isAgg4
 z4:=Tryz.sizeOf4
 v4:=Tryz.zeroValue4
 t5:=underlying5
 a5:=Tryz.isAgg5
 z5:=Tryz.sizeOf5
 v5:=Tryz.zeroValue5
 t9:=underlying9
 a9:=Tryz.isAgg9
 z9:=Tryz.sizeOf9
 v9:=Tryz.zeroValue9
 t22:=underlying54
 a22:=Tryz.isAgg54
 z22:=Tryz.sizeOf54
 v22:=Tryz.zeroValue54
 t23:=underlying54
 a23:=Tryz.isAgg54
 z23:=Tryz.sizeOf54
 v23:=Tryz.zeroValue54
 t25:=underlying3
 a25:=Tryz.isAgg3
 z25:=Tryz.sizeOf3
 v25:=Tryz.zeroValue3
 t32:=underlying196
 a32:=Tryz.isAgg196
 z32:=Tryz.sizeOf196
 v32:=Tryz.zeroValue196
 t35:=underlying254
 a35:=Tryz.isAgg254
 z35:=Tryz.sizeOf254
 v35:=Tryz.zeroValue254
 t36:=underlying255
 a36:=Tryz.isAgg255
 z36:=Tryz.sizeOf255
 v36:=Tryz.zeroValue255
 t41:=underlying112
 a41:=Tryz.isAgg112
 z41:=Tryz.sizeOf112
 v41:=Tryz.zeroValue112
 t44:=underlying261
 a44:=Tryz.isAgg261
 z44:=Tryz.sizeOf261
 v44:=Tryz.zeroValue261
 t46:=underlying263
 a46:=Tryz.isAgg263
 z46:=Tryz.sizeOf263
 v46:=Tryz.zeroValue263
 t53:=underlying311
 a53:=Tryz.isAgg311
 z53:=Tryz.sizeOf311
 v53:=Tryz.zeroValue311
 t57:=underlying315
 a57:=Tryz.isAgg315
 z57:=Tryz.sizeOf315
 v57:=Tryz.zeroValue315
 t63:=underlying346
 a63:=Tryz.isAgg346
 z63:=Tryz.sizeOf346
 v63:=Tryz.zeroValue346
 t64:=underlying347
 a64:=Tryz.isAgg347
 z64:=Tryz.sizeOf347
 v64:=Tryz.zeroValue347 }
def Tryz.sortStr_ren:Go.Shelf.Ren:=⟨fun|6=>218|8=>104|9=>262|19=>162|20=>163|21=>277|22=>278|23=>279|24=>280|25=>281|26=>282|27=>283|28=>284|29=>285|36=>300|31=>210|32=>211|37=>301|38=>302|39=>135|41=>311|n=>n,fun|27=>134|29=>9|3=>3|32=>196|26=>134|0=>0|44=>261|46=>263|4=>4|36=>255|35=>254|41=>112|5=>5|9=>9|53=>311|57=>315|63=>346|64=>347|n=>n,fun|n=>n⟩
theorem Tryz.sortStr:Go.Proofs.SlLaysM.n6 prog Tryz.sortStr_ren:={
 mixed:=by kernel_rfl
 f6:=⟨Tryz.f218.name,by decide,func218.trans (congrArg some (by kernel_rfl))⟩
 f8:=func104.trans (congrArg some (by kernel_rfl))
 f9:=⟨Tryz.f262.name,by decide,func262.trans (congrArg some (by kernel_rfl))⟩
 f19:=func162.trans (congrArg some (by kernel_rfl))
 f20:=func163.trans (congrArg some (by kernel_rfl))
 f21:=⟨Tryz.f277.name,by decide,func277.trans (congrArg some (by kernel_rfl))⟩
 f22:=⟨Tryz.f278.name,by decide,func278.trans (congrArg some (by kernel_rfl))⟩
 f23:=⟨Tryz.f279.name,by decide,func279.trans (congrArg some (by kernel_rfl))⟩
 f24:=⟨Tryz.f280.name,by decide,func280.trans (congrArg some (by kernel_rfl))⟩
 f25:=⟨Tryz.f281.name,by decide,func281.trans (congrArg some (by kernel_rfl))⟩
 f26:=⟨Tryz.f282.name,by decide,func282.trans (congrArg some (by kernel_rfl))⟩
 f27:=⟨Tryz.f283.name,by decide,func283.trans (congrArg some (by kernel_rfl))⟩
 f28:=⟨Tryz.f284.name,by decide,func284.trans (congrArg some (by kernel_rfl))⟩
 f29:=⟨Tryz.f285.name,by decide,func285.trans (congrArg some (by kernel_rfl))⟩
 f31:=func210.trans (congrArg some (by kernel_rfl))
 f32:=func211.trans (congrArg some (by kernel_rfl))
 f36:=⟨Tryz.f300.name,by decide,func300.trans (congrArg some (by kernel_rfl))⟩
 f37:=⟨Tryz.f301.name,by decide,func301.trans (congrArg some (by kernel_rfl))⟩
 f38:=⟨Tryz.f302.name,by decide,func302.trans (congrArg some (by kernel_rfl))⟩
 f39:=⟨Tryz.f135.name,by decide,func135.trans (congrArg some (by kernel_rfl))⟩
 f41:=⟨Tryz.f311.name,by decide,func311.trans (congrArg some (by kernel_rfl))⟩
 t0:=underlying0
 a0:=Tryz.isAgg0
 z0:=Tryz.sizeOf0
 v0:=Tryz.zeroValue0
 t3:=underlying3
 a3:=Tryz.isAgg3
 z3:=Tryz.sizeOf3
 v3:=Tryz.zeroValue3
 t4:=underlying4
 a4:=Tryz.isAgg4
 z4:=Tryz.sizeOf4
 v4:=Tryz.zeroValue4
 t5:=underlying5
 a5:=Tryz.isAgg5
 z5:=Tryz.sizeOf5
 v5:=Tryz.zeroValue5
 t9:=underlying9
 a9:=Tryz.isAgg9
 z9:=Tryz.sizeOf9
 v9:=Tryz.zeroValue9
 t26:=underlying134
 a26:=Tryz.isAgg134
 z26:=Tryz.sizeOf134
 v26:=Tryz.zeroValue134
 t27:=underlying134
 a27:=Tryz.isAgg134
 z27:=Tryz.sizeOf134
 v27:=Tryz.zeroValue134
 t29:=underlying9
 a29:=Tryz.isAgg9
 z29:=Tryz.sizeOf9
 v29:=Tryz.zeroValue9
 t32:=underlying196
 a32:=Tryz.isAgg196
 z32:=Tryz.sizeOf196
 v32:=Tryz.zeroValue196
 t35:=underlying254
 a35:=Tryz.isAgg254
 z35:=Tryz.sizeOf254
 v35:=Tryz.zeroValue254
 t36:=underlying255
 a36:=Tryz.isAgg255
 z36:=Tryz.sizeOf255
 v36:=Tryz.zeroValue255
 t41:=underlying112
 a41:=Tryz.isAgg112
 z41:=Tryz.sizeOf112
 v41:=Tryz.zeroValue112
 t44:=underlying261
 a44:=Tryz.isAgg261
 z44:=Tryz.sizeOf261
 v44:=Tryz.zeroValue261
 t46:=underlying263
 a46:=Tryz.isAgg263
 z46:=Tryz.sizeOf263
 v46:=Tryz.zeroValue263
 t53:=underlying311
 a53:=Tryz.isAgg311
 z53:=Tryz.sizeOf311
 v53:=Tryz.zeroValue311
 t57:=underlying315
 a57:=Tryz.isAgg315
 z57:=Tryz.sizeOf315
 v57:=Tryz.zeroValue315
 t63:=underlying346
 a63:=Tryz.isAgg346
 z63:=Tryz.sizeOf346
 v63:=Tryz.zeroValue346
 t64:=underlying347
 a64:=Tryz.isAgg347
 z64:=Tryz.sizeOf347
 v64:=Tryz.zeroValue347 }
end Go.Proofs
namespace Go.Proofs.YtiefajiebebgoaaGreatDoor
set_option linter.unusedVariables false
open Go.RowKit Go.Shelf Go.Sort
attribute [local go_sem] Oper.semAt_some
theorem Qr.lt {w:World} {F:Nat→Prop} {v:Value} {s:List Tm.Sp} (h:Qr w F v s):Qr w (fun k=>F k∧k<w.heap.size) v s:=by
 obtain⟨A,c,e,h1,h2,h3⟩:=h;refine⟨A,c,e,h1,h2,?_⟩;rcases h3 with h3|⟨b,off,e,h4,h5,h6⟩
 ·exact .inl h3
 ·exact .inr ⟨b,off,e,⟨h4,h5⟩,h5,h6⟩
def Aw (v:Value) (s:List Tm.Sp):Q3 where
 P w F:=Qr w F v s∧∀ k,F k→k<w.heap.size
 lt h:=h.2
 mod h hm hG:=⟨h.1.keep (Qm.of_mod hm hG),fun k hk=>Nat.lt_of_lt_of_le (h.2 k hk) hm.size⟩
theorem St.newSet {lo:Nat} {w0 w w':World} {Rs:List Q3} {v:Value} {s:List Tm.Sp} (h:St lo w0 w Rs) (hb:Below w.heap.size w w') (hs:Qr w' (fun k=>w.heap.size≤k) v s):St lo w0 w' (Aw v s::Rs):=
 h.new (F:=fun k=>w.heap.size≤k∧k<w'.heap.size) hb ⟨hs.lt,fun k hk=>hk.2⟩ (fun k hk=>hk.1)
theorem St.set {lo:Nat} {w0 w:World} {Rs:List Q3} {v:Value} {s:List Tm.Sp} (h:St lo w0 w (Aw v s::Rs)):Qr w (fun _=>True) v s:=by obtain⟨_,_,F,V,h1,_⟩:=h;exact h1.1.mono (fun _ _=>trivial)
def Rc (w:World) (F:Nat→Prop) (v:Value) (L:List (List Tm.Sp)):Prop:=
 ∃ A c vs,v=.slice A L.length c∧L.length≤c∧c≤maxLen∧Z9 w F A vs∧vs.length=L.length∧∀ i (hi:i<L.length) u,vs[i]?=some u→Qr w F u L[i]
theorem Rc.keep {w w':World} {F:Nat→Prop} {v:Value} {L:List (List Tm.Sp)} (h:Rc w F v L) (hk:Qm F w w'):Rc w' F v L:=by obtain⟨A,c,vs,e,h1,h2,h3,h4,h5⟩:=h;exact⟨A,c,vs,e,h1,h2,h3.keep hk,h4,fun i hi u hu=>(h5 i hi u hu).keep hk⟩
def kI (k:Int):Lit:=.int .i64 k
theorem Dc {a b:Int} (h:a≠b):kI a≠kI b:=fun e=>h (Lit.int.inj e).2
def Mn (M:Lit→Option Value) (X:List Tm.Sp):Prop:=(∀ k:Int,k∈Tm.J4 X→M (kI k)=some (.int .i64 (Tm.Fj X k)))∧∀ k:Int,k∉Tm.J4 X→M (kI k)=none
theorem Mn.look {M:Lit→Option Value} {X:List Tm.Sp} (h:Mn M X) (k:Int):(M (kI k)).getD (.int .i64 0)=.int .i64 (Tm.Fj X k):=by
 by_cases hk:k∈Tm.J4 X
 ·rw[h.1 k hk]
  rfl
 ·rw[h.2 k hk,Tm.chg_none X k hk]
  rfl
theorem chg_start:Mn (Jq (Jq (fun _=>none) (kI 0) (.int .i64 0)) (kI 1000000) (.int .i64 0)) []:=by
 refine⟨fun k hk=>?_,fun k hk=>?_⟩
 ·have hk:k=0∨k=1000000:=by simpa [Tm.J4] using hk
  rcases hk with rfl|rfl
  ·rw[Qz (Dc (by decide)),Zd]
   rfl
  ·rw[Zd]
   rfl
 ·have hk:¬(k=0∨k=1000000):=by simpa [Tm.J4] using hk
  rw[Qz (Dc (fun e=>hk (.inr e))),Qz (Dc (fun e=>hk (.inl e)))]
theorem Mn.half {M:Lit→Option Value} {X:List Tm.Sp} (h:Mn M X) {x:Tm.Sp} (hx:x.1<x.2):(Jq M (kI x.1) (.int .i64 (Tm.Fj X x.1+1)) (kI x.2)).getD (.int .i64 0)=.int .i64 (Tm.Fj X x.2):=by rw[Qz (Dc (by omega))];exact h.look x.2
theorem Mn.step {M:Lit→Option Value} {X:List Tm.Sp} (h:Mn M X) {x:Tm.Sp} (hx:x.1<x.2):Mn (Jq (Jq M (kI x.1) (.int .i64 (Tm.Fj X x.1+1))) (kI x.2) (.int .i64 (Tm.Fj X x.2-1))) (X++[x]):=by
 refine⟨fun k hk=>?_,fun k hk=>?_⟩
 ·rw [Tm.T5,Tm.chg_one]
  by_cases h2:k=x.2
  ·subst h2
   rw[Zd,if_neg (by omega),if_pos rfl]
   congr 2
  ·rw[Qz (Dc h2)]
   by_cases h1:k=x.1
   ·subst h1
    rw[Zd,if_pos rfl,if_neg (by omega)]
    congr 2
   ·rw[Qz (Dc h1),if_neg (fun e=>h1 e.symm),if_neg (fun e=>h2 e.symm)]
    rcases (Tm.P6 X x k).1 hk with hk|hk|hk
    ·rw[h.1 k hk]
     congr 2
     omega
    ·exact absurd hk h1
    ·exact absurd hk h2
 ·have hn:=fun e=>hk ((Tm.P6 X x k).2 e)
  rw[Qz (Dc (fun e=>hn (.inr (.inr e)))),Qz (Dc (fun e=>hn (.inr (.inl e)))),h.2 k (fun e=>hn (.inl e))]
def Came (X:List Tm.Sp) (left:Lit→Bool) (r:List Int):Prop:=r.Nodup∧∀ k:Int,k∈r↔k∈Tm.J4 X∧left (kI k)=false
theorem came_start {M:Lit→Option Value} {X:List Tm.Sp} (h:Mn M X):Came X (fun kl=>(M kl).isSome) []:=
 by
 refine⟨List.nodup_nil,fun k=>⟨fun hk=>absurd hk List.not_mem_nil,fun hk=>?_⟩⟩;have h2:(M (kI k)).isSome=false:=hk.2;rw[h.1 k hk.1] at h2
 cases h2
theorem Came.step {X:List Tm.Sp} {left:Lit→Bool} {r:List Int} (h:Came X left r) {x:Int} (hl:left (kI x)=true) (hx:x∈Tm.J4 X):Came X (fun z=>left z&&!z.sameKey (kI x)) (r++[x]):=by
 have hs:(kI x).sameKey (kI x)=true:=WideAt.sameKey_self (by simp[WideAt.IsKeyLit,kI]);refine⟨?_,fun k=>?_⟩
 ·refine List.nodup_append.2 ⟨h.1,by simp,fun a ha b hb e=>?_⟩
  rw[List.mem_singleton.1 hb] at e;subst e;rw[((h.2 a).1 ha).2] at hl
  cases hl
 ·rw[List.mem_append,List.mem_singleton,h.2 k]
  show _↔k∈Tm.J4 X∧(left (kI k)&&!(kI k).sameKey (kI x))=false
  by_cases e:k=x
  ·subst e
   rw[hs];simp[hx]
  ·rw[Maps.sameKey_ne (Dc e)]
   simp[e]
theorem Came.done {X:List Tm.Sp} {left:Lit→Bool} {r:List Int} (h:Came X left r) (hl:∀ kl,left kl=false):(r.mergeSort fun x y=>decide (x≤y))=Tm.J4 X:=
 Tm.Le X h.1 fun k=>⟨fun hk=>((h.2 k).1 hk).1,fun hk=>(h.2 k).2 ⟨hk,hl _⟩⟩
theorem St.sortI {lo:Nat} {w0 w:World} {Rs:List Q3} {A:Option Addr} {n c:Nat} {l:List Int} (h:St lo w0 w (Qh 3 1 (.slice A n c) n (l.map (Value.int .i64))::Rs)) (hl:l.length=n) (hm:n<4611686018427387904):
 Calls prog 69 #[.slice A n c] w fun e w'=>e=.returned (.tuple #[])∧St lo w0 w' (Qh 3 1 (.slice A n c) n ((l.mergeSort fun x y=>decide (x≤y)).map (Value.int .i64))::Rs):=by
 rcases Nat.eq_zero_or_pos n with h0|h0
 ·subst h0
  have e0:=List.eq_nil_of_length_eq_zero hl;subst e0;refine(AnyM.slices_Sort_int_none Tryz.sortI A c w).mono ?_;rintro e w' ⟨rfl,rfl⟩;exact⟨rfl,by simpa using h⟩
 ·obtain⟨g,c',e0,hg,h1,h2⟩:=Zx h.own h0
  obtain⟨rfl,-,rfl⟩:=Value.slice.inj e0;have hH:Sort.Holds (Value.int .i64) w g 0 l.toArray:=by have:=Vh (F:=(l.map (Value.int .i64)).toArray) (by simpa using h.own);intro j hj;obtain⟨q1,q2⟩:=this j (by simpa using hj);refine⟨?_,q2⟩;rw[q1];have hjl:j<l.length :=(by simpa using hj);simp[hjl]
  have k:=AnyM.slices_Sort_int Tryz.sortI g 0 c l w hH hg (by omega);rw[hl] at k
  change Calls prog 69 _ _ _ at k
  refine k.mono ?_;rintro e w' ⟨rfl,m,os,rfl⟩;generalize hr:(l.mergeSort fun x y=>decide (x≤y))=r;have hrl:r.length=n:=by rw[←hr,List.length_mergeSort,hl]
  refine⟨rfl,?_⟩;have ho:=Rl (q:=m) (r.map (Value.int .i64)).toArray h.own (by simp[hrl])
  have hg:w.grownBy (putRow id (Sort.ahead w m) g 0 (r.map (Value.int .i64)).toArray) (some g):=⟨rfl,rfl,rfl,by simp[Sort.ahead],fun i _ hi=>by
   have hne:g≠i:=fun e=>hi (by rw[e])
   simp[putRow,mapBlock,Sort.ahead,Array.getElem?_modify,hne]⟩
  have h1:=h.shift ho hg (.inl rfl);have h2:=h1.under (F9 _ os)
  have e:putRow (Value.int .i64) (Sort.ahead w m) g 0 r.toArray=putRow id (Sort.ahead w m) g 0 (r.map (Value.int .i64)).toArray:=by
   unfold putRow
   congr 1
   unfold putCells
   funext c
   apply Array.ext_getElem?;intro i;simp only[Array.getElem?_mapIdx]
   congr 1
   funext x
   simp only[List.size_toArray,List.length_map,id]
   split
   ·rename_i hi
    have hi':i-0<r.length :=(by omega);have hi2:i<r.length :=(by omega);simp[hi2]
   ·rfl
  rw[e];simpa using h2
theorem Ee {lo:Nat} {w0 w:World} {Rs:List Q3} {e:TypeId} {v:Value} {n size:Nat} {xs:List Value} {P:Program} {ops:Array Oper} {o:Oper} {a:Act} {K:Act→World→Prop} {Q:Exit→Act→World→Prop} {E:Prop} (t:TypeId) {z:Value} {bytes:Nat} (us:Array Value) {te:TypeId}
 (h:St lo w0 w (Qh e size v n xs::Rs)) (ht:P.underlying t=some (.slice e)) (hi:(P.info? e).map (fun i=>(i.zero,i.size,i.bytes))=some (some z,size,bytes)) (hzs:z.cells.size=size) (hsz:0<size)
 (s x:Operand) (ho:o.op=.call { callee:=.builtin .append,args:=#[s,x],argTypes:=#[t,t] }) (hgd:o.guard=none)
 (hs:a.eval s=v) (hx:a.eval x=.slice (some ⟨w.heap.size,0,none⟩) 1 1) (hus:us.size=size) (hu:∀ u∈us.toList,u.oneCell'=true) (h63:n+1≤maxLen) (hbytes:(n+1)*bytes≤140737488355328)
 (hk:∀ g cap w',St lo w0 w' (Qh e size (.slice (some ⟨g,0,none⟩) (n+1) cap) (n+1) (xs++us.toList)::Rs)→K (a.put o.dst (.slice (some ⟨g,0,none⟩) (n+1) cap)) w'):
 if Region.wanted o (yielded ops a.tmps)=true then Oper.wp P o a (w.alloc (.cells us te)).drew K Q else E:=by
 rw[if_pos (by unfold Region.wanted;rw[hgd])];refine Is t (h.alloc0 _).drew ht hi hzs hsz s x ho hs ⟨w.heap.size,0,none⟩ 1 1 us.toList hx (by simp[hus]) ?_ hu (by decide) h63 hbytes (fun g cap w' r1 _ _=>hk g cap w' r1);intro j y hj;rw[Addr.add_lit,Nat.zero_add];refine((Uc.new w te us).cell j).trans ?_;simpa using hj
theorem St.setOf {lo:Nat} {w0 w:World} {Rs:List Q3} {v:Value} {n:Nat} {s:List Tm.Sp} (h:St lo w0 w (Qh 79 2 v n (s.flatMap G9)::Rs)) (hn:n=s.length):Qr w (fun k=>lo≤k) v s:=by
 obtain⟨A,c,rfl,g1,g2⟩:=Q4 h.own;subst hn;refine⟨A,c,rfl,g1,g2,?_⟩;rcases Nat.eq_zero_or_pos s.length with h0|h0
 ·exact .inl (by rw[List.eq_nil_of_length_eq_zero h0];rfl)
 ·obtain⟨g,c',eA,hg,-,-⟩:=Zx h.own h0
  obtain⟨rfl,-,rfl⟩:=Value.slice.inj eA;refine .inr ⟨g,0,rfl,h.ownLo.1,h.ownLo.2,fun i hi=>?_⟩;rw[Nat.zero_add];exact(h.cellAt (List.getElem?_eq_getElem hi)).1
open Go.RowKit Go.Shelf
theorem Rr (w:World):(zeroValue 3).run prog w=.ok (.int .i64 0) w:=by kernel_rfl
theorem Wg:(prog.info? 3).map (fun i=>(i.zero,i.size,i.bytes))=some (some (.int .i64 0),1,8):=by kernel_rfl
theorem flat_len (L:List (List Tm.Sp)):(L.flatMap Tm.Q9).length≤L.length*500001:=by
 induction L with
 |nil=>exact Nat.le_refl _
 |cons s L ih =>have:=Tm.Nb s;rw[List.flatMap_cons,List.length_append,List.length_cons,Nat.succ_mul];omega
theorem K3 (f:Nat) (lb:Array Value) (he:∀ args w,(callFunc f args).run prog w=.ok (.enter f args) w) (keep:Int→Bool) (L:List (List Tm.Sp)) (v:Value) (F:Nat→Prop) (w:World) (h:Rc w F v L) (hl:L.length≤8)
 (hs:∀ i (hi:i<L.length),L[i].length≤4294967296)
 (kf:∀(n:Int) W,Below w.heap.size w W→Calls prog f (#[.int .i64 n]++lb) W fun e w'=>e=.returned (.bool (keep n))∧Below W.heap.size W w'):
 Calls prog 139 #[.func (.func f) #[] lb,v] w fun e w'=>∃ v',e=.returned v'∧Below w.heap.size w w'∧Qr w' (fun k=>w.heap.size≤k) v' (Tm.Ij keep L):=by
 obtain⟨A,c,vs,rfl,h1,h2,h3,h4,h5⟩:=h;obtain⟨N,hN⟩:∃ N,L.length=N:=⟨_,rfl⟩;rw[hN] at h1 hl ⊢;have HL:=Kd5 hN h3 h4 h5 hs;have KF:=Kd kf;clear hN h3 h4 h5 hs kf h1 h2;have hmm:=@run_makeMap prog;obtain⟨w1,u1,s1⟩:=((St.nil w).mpMade 3).mput 299 Tg underlying299 (by decide) (Uj 0 (by decide)) (.int .i64 0);obtain⟨w2,u2,s2⟩:=s1.mput 299 Tg underlying299 (by decide) (Uj 1000000 (by decide)) (.int .i64 0);have S2:=Kd s2;clear s1 s2;go_enter func139,ntmps139;go_wp2
 go_loopw [19] (fun i wr=>∃(k n:Nat) (M:Lit→Option Value),k≤N∧i=.int .i64 k∧n≤1000004*k+2∧Hid (Mn M ((L.take k).flatMap Tm.Q9))∧Hid (St w.heap.size w wr [Zw 3 w.heap.size n M])) (fun i _=>N-(intOf i).toNat)
 case atStart=>exact⟨0,2,_,Nat.zero_le _,rfl,Nat.le_refl _,Kd chg_start,S2⟩
 case round =>
  obtain⟨k,n,M,hk,rfl,hn,hM,hst⟩:=hrel
  by_cases hlt:k<N
  ·obtain⟨hN,h3,h4,h5,hs⟩:=HL.out
   have hkL:k<L.length :=(by omega);obtain⟨u,hu⟩:∃ u,vs[k]?=some u:=⟨_,List.getElem?_eq_getElem (by omega)⟩;have hset:=(h5 k hkL u hu).lt.keep (Qm.under hst.out.below (fun _ hk=>hk.2));have kc:=Wh L[k] u _ wr hset (hs k hkL);rcases h3 with h3|⟨b,off,rfl,-,hb,hc⟩
   ·rw[h3] at hu
    cases hu
   obtain⟨hkv,hue⟩:=List.getElem?_eq_some_iff.1 hu;have ca:=hc k hkv;rw[hue,←hst.out.below.cell (p:=⟨b,off+k,none⟩) hb] at ca;have ht:(L.take (k+1)).flatMap Tm.Q9=(L.take k).flatMap Tm.Q9++Tm.Q9 L[k] :=(by rw[List.take_succ_eq_append_getElem hkL,List.flatMap_append,List.flatMap_cons,List.flatMap_nil,List.append_nil]);have hcl:=Tm.Nb L[k];have hcp:=Tm.Ma (Tm.Wc L[k]) (Int.le_refl _);have hxl:((L.take k).flatMap Tm.Q9).length≤8*500001 :=(by refine Nat.le_trans (flat_len _) (Nat.mul_le_mul_right _ ?_);rw[List.length_take];omega);generalize Tm.Q9 L[k]=cs at kc ht hcl hcp;obtain⟨X,hX⟩:∃ X,(L.take k).flatMap Tm.Q9=X:=⟨_,rfl⟩;rw[hX] at hM ht hxl;have HT:=Kd3 ht hcp hxl;have KL:=Kd hlt;have i0:(0:Int)≤(k:Int):=Int.natCast_nonneg _;have i1:(k:Int)<(N:Int):=Int.ofNat_lt.2 hlt;clear hN h4 h5 hs hset hu hue hc hkv ht hcp hxl hX hb hkL;go_wp2_with fail;refine kc.mono ?_;rintro e w3 ⟨v',rfl,b3,hs3⟩;have s3:=hst.out.newSet b3 hs3;obtain⟨A',c',rfl,-,-,-⟩:=hs3;obtain⟨m,hm⟩:∃ m,cs.length=m:=⟨_,rfl⟩;rw[hm] at s3 hcl;have HS:=Kd hm;have S3:=Kd s3;clear kc b3 s3 hm hst;rw[HS.out];go_wp2
   go_loopw [26] (fun i wi=>∃(j n':Nat) (M':Lit→Option Value),j≤m∧i=.int .i64 j∧n'≤n+2*j∧Hid (Mn M' (X++cs.take j))∧Hid (St w.heap.size w wi [Aw (.slice A' m c') cs,Zw 3 w.heap.size n' M'])) (fun i _=>m-(intOf i).toNat)
   case atStart=>exact⟨0,n,M,Nat.zero_le _,rfl,Nat.le_refl _,Kd (by rw[List.take_zero,List.append_nil];exact hM.out),S3⟩
   case round=>
    obtain⟨j,n',M',hj,rfl,hn',hM',hst⟩:=hrel
    by_cases hjm:j<m
    ·obtain⟨hTt,hTp,hTl⟩:=HT.out
     have hjc:j<cs.length :=(by rw[HS.out];exact hjm);obtain⟨A'',c'',eS,-,-,hrd⟩:=hst.out.set;obtain⟨rfl,-,rfl⟩:=Value.slice.inj eS;obtain⟨b,off,rfl,hb,c0,c1⟩:=hrd.spans j hjc;rw[List.getD_eq_getElem?_getD,List.getElem?_eq_getElem hjc,Option.getD_some] at c0 c1;have hxp:=hTp cs[j] (List.getElem_mem hjc);have htk:cs.take (j+1)=cs.take j++[cs[j]]:=List.take_succ_eq_append_getElem hjc;have hxl:(X++cs.take j).length≤10000000 :=(by rw[List.length_append,List.length_take];omega);generalize cs[j]=x at c0 c1 hxp htk;obtain⟨Y,hY⟩:∃ Y,X++cs.take j=Y:=⟨_,rfl⟩;have htY:X++cs.take (j+1)=Y++[x] :=(by rw[htk,←List.append_assoc,hY]);rw[hY] at hM' hxl;have hk1:=hM'.out.look x.1;have hk2:=hM'.out.half (x:=x) hxp.2.1;have hst3:=hM'.out.step (x:=x) hxp.2.1;obtain⟨n1,hn1⟩:∃ n1,Tm.Fj Y x.1=n1:=⟨_,rfl⟩;obtain⟨n2,hn2⟩:∃ n2,Tm.Fj Y x.2=n2:=⟨_,rfl⟩;have hb1:=Tm.E9 Y x.1;have hb2:=Tm.E9 Y x.2;rw[hn1] at hk1 hk2 hst3 hb1;rw[hn2] at hk2 hst3 hb2;obtain⟨x0,x1⟩:=x;dsimp only at c0 c1 hxp hk1 hk2 hst3;obtain⟨W1,hW1⟩:∃ W1,wr.alloc (.cells #[.int .i64 x0,.int .i64 x1] 79)=W1:=⟨_,rfl⟩;have s1:=hst.out.alloc 79 #[.int .i64 x0,.int .i64 x1];rw[hW1] at s1;have y0:=s1.blk.cell 0;have s2:=s1.rot.rot;have l1:=s2.mp.look Tg underlying299 (Rr W1) (Uj x0 (by omega));unfold kI at hk1 hk2 hst3;rw[hk1] at l1;obtain⟨W2,u1,s3⟩:=s2.mput 299 Tg underlying299 (by unfold maxLen;omega) (Uj x0 (by omega)) (.int .i64 (n1+1));have y1:=s3.tail.blk.cell 1;have l2:=s3.mp.look Tg underlying299 (Rr W2) (Uj x1 (by omega));rw[hk2] at l2;obtain⟨W3,u2,s4⟩:=s3.mput 299 Tg underlying299 (by unfold maxLen;omega) (Uj x1 (by omega)) (.int .i64 (n2-1));have wr1:IntKind.i64.wrap (n1+1)=n1+1 :=(by rw[IntKind.wrap_i64];omega);have wr2:IntKind.i64.wrap (n2-1)=n2-1 :=(by rw[IntKind.wrap_i64];omega);have i2:(0:Int)≤(j:Int):=Int.natCast_nonneg _;have i3:(j:Int)<(m:Int):=Int.ofNat_lt.2 hjm;have JM:=Kd hjm;have S4:=Kd s4.rot.tail;have HY:=Kd2 htY hst3;clear hTt hTp hTl hjc hrd hb hxp htk hxl hY htY hM' hk1 hk2 hst3 hn1 hn2 hb1 hb2 s1 s2 s3 s4 eS hst;go_wp2
     go_roundw
     case rel=>exact⟨j+1,n'+1+1,_,Nat.succ_le_of_lt JM.out,by go_num,by omega,Kd (by rw[HY.out.1];exact HY.out.2),S4⟩
     case measure=>have:=JM.out;simp[intOf];omega
    ·obtain rfl:j=m:=Nat.le_antisymm hj (Nat.le_of_not_lt hjm)
     have hge:decide ((j:Int)<(j:Int))=false :=(by simp);go_wp2
     go_roundw
     case rel=>exact⟨k+1,n',M',Nat.succ_le_of_lt KL.out,by go_num,by omega,Kd (by rw[HT.out.1,←List.take_of_length_le (l:=cs) (i:=j) (by rw[HS.out];exact Nat.le_refl _)];exact hM'.out),Kd hst.out.tail⟩
     case measure=>have:=KL.out;simp[intOf];omega
  ·obtain rfl:k=N:=Nat.le_antisymm hk (Nat.le_of_not_lt hlt)
   have hge:decide ((k:Int)<(k:Int))=false :=(by simp);rw[List.take_of_length_le (by rw[HL.out.1];exact Nat.le_refl _)] at hM;have hxl:(L.flatMap Tm.Q9).length≤10000000:=Nat.le_trans (flat_len L) (by rw[HL.out.1];omega);have hcb:Tm.Fe (Tm.Jj keep (L.flatMap Tm.Q9) (Tm.J4 (L.flatMap Tm.Q9)))=Tm.Ij keep L:=rfl;have hpr:=Tm.P0 L;obtain⟨X,hX⟩:∃ X,L.flatMap Tm.Q9=X:=⟨_,rfl⟩;rw[hX] at hM hxl hcb hpr;obtain⟨E0,hE1,hE2,hE3⟩:=Tm.E2 X hpr;rw[←hE1] at hE3;have hE4:(Tm.J4 X)[0]?=some 0 :=(by rw[hE1];rfl);have HC:=Kd6 hcb hpr hxl hE3 hE4 hM.out;clear hE1 hE2 hE3 hE4;obtain⟨nb,hnb,hlen⟩:=hst.out.mp.len underlying299;obtain⟨W1,m1,s1⟩:=hst.out.madeRow 54 3 underlying54 Wg nb (by omega) (by unfold maxLen;omega);obtain⟨W2,r,Js,hcn,m2,s2⟩:=s1.swap.mrange 299 Tg underlying299;have S2:=Kd s2;have CS:=Kd (came_start hM.out);clear hM hxl hcb hpr hX s1 s2;go_wp2
   go_loopw [10] (fun v wr=>∃(left:Lit→Bool) (Js:Nat) (q:List Int),q.length+Js≤8000034∧Hid (Came X left q)∧Hid (St w.heap.size w wr [rgR 3 w.heap.size r n M left Js,Qh 3 1 v q.length (q.map (Value.int .i64))])) (fun _ wr=>wr.rangeLeft w.heap.size r)
   case atStart=>exact⟨_,Js,[],by simp;omega,CS,S2⟩
   case round=>
    obtain⟨left,Js,q,hq,hcame,hst⟩:=hrel;obtain⟨A1,c1,rfl,-,-⟩:=Q4 hst.out.tail.own;rcases hst.out.mnext (fun x=>Value.int .i64 x) Tg invI 0 with⟨hl,m1⟩|⟨x,u,kl,W1,cnt',hkey,hlk,hMk,m1,m2,hlt,s1⟩
    ·have ks:=hst.out.unrange.swap.sortI rfl (by omega)
     have eB:=hcame.out.done hl;have eN:q.length=(Tm.J4 X).length :=(by rw[←eB,List.length_mergeSort]);rw[eB] at ks;obtain⟨m,hm⟩:∃ m,q.length=m+1:=⟨q.length-1,by have:=(List.getElem?_eq_some_iff.1 HC.out.2.2.2.2.1).1;omega⟩;rw[hm] at ks eN hq ⊢;have EN:=Kd eN;have hm4:m≤8000033 :=(by omega);clear hcame hst eB eN hq hm hl;go_wp2_with fail;refine ks.mono ?_;rintro e w3 ⟨rfl,s3⟩;have S3:=Kd s3;clear ks s3;have mw1:IntKind.i64.wrap ((m:Int)+1-1)=(m:Int) :=(by rw[IntKind.wrap_i64];omega);go_wp2
     go_loopw [60,13,12] (fun i ct o wr=>∃(k n':Nat),k≤m∧i=.int .i64 k∧ct=.int .i64 (Tm.Vu X (Tm.J4 X) k)∧n'≤k∧Hid (n'=(Tm.Jj keep X ((Tm.J4 X).take (k+1))).length)∧
      Hid (St w.heap.size w wr [Qh 79 2 o n' ((Tm.Jj keep X ((Tm.J4 X).take (k+1))).flatMap G9),Qh 3 1 (.slice A1 (m+1) c1) (m+1) ((Tm.J4 X).map (Value.int .i64)),Zw 3 w.heap.size n M])) (fun i _ _ _=>m-(intOf i).toNat)
     case atStart=>exact⟨0,0,Nat.zero_le _,rfl,rfl,Nat.le_refl _,Kd (by rw[Tm.Lp];rfl),Kd (by rw[Tm.Lp];exact S3.out.new_own (Below.refl _ w3) ⟨rfl,.inl ⟨rfl,rfl⟩⟩)⟩
     case round=>
      obtain⟨k,n',hk,rfl,rfl,hnk,hn',hst⟩:=hrel
      by_cases hlt:k<m
      ·obtain ⟨hcb,hpr,hxl,hE3,hE4,hM⟩:=HC.out
       obtain⟨a,ha⟩:∃ a,(Tm.J4 X)[k]?=some a:=⟨_,List.getElem?_eq_getElem (by rw[←EN.out];omega)⟩;obtain⟨b,hb⟩:∃ b,(Tm.J4 X)[k+1]?=some b:=⟨_,List.getElem?_eq_getElem (by rw[←EN.out];omega)⟩;have e1:=Tm.pre_step X hpr hE3 hE4 ha;have e2:=Tm.Ch X (Tm.J4 X) ha;have e3:=Tm.sweep_take keep X (Tm.J4 X) k a b ha hb;have e4:=Tm.L9 X (Tm.J4 X) k;have e5:=Tm.L9 X (Tm.J4 X) (k+1);have ra:=Tm.ends_range X hpr a (List.mem_of_getElem? ha);rw[e2] at e5;rw[←e1] at e5;obtain⟨g,c',eA,hg,hgc,-⟩:=Zx hst.out.tail.own (by omega);obtain⟨rfl,-,rfl⟩:=Value.slice.inj eA;obtain⟨ca,-⟩:=hst.out.tail.cellAt (j:=k) (u:=.int .i64 a) (by rw[List.getElem?_map,ha];rfl);obtain⟨cb,-⟩:=hst.out.tail.cellAt (j:=k+1) (u:=.int .i64 b) (by rw[List.getElem?_map,hb];rfl);have l1:=hst.out.tail.tail.mp.look Tg underlying299 (Rr wr) (Uj a (by omega));have hk1:=hM.look a;unfold kI at hk1;rw[hk1] at l1;generalize Tm.Vu X (Tm.J4 X) k=p0 at e1 e4 e5 ⊢;generalize Tm.Fj X a=d0 at e1 e5 l1;have kf:=KF.out (Tm.Js X a) wr hst.out.below;have wr1:IntKind.i64.wrap (p0+d0)=Tm.Js X a :=(by rw[IntKind.wrap_i64];omega);have wr2:IntKind.i64.wrap ((k:Int)+1)=(k:Int)+1 :=(by rw[IntKind.wrap_i64];omega);have i0:(0:Int)≤(k:Int):=Int.natCast_nonneg _;have i1:(k:Int)<(m:Int):=Int.ofNat_lt.2 hlt;have i2:(k:Int)<(m:Int)+1 :=(by omega);have i3:(0:Int)≤(k:Int)+1 :=(by omega);have i4:(k:Int)+1<(m:Int)+1 :=(by omega);have KL:=Kd hlt;generalize Tm.Js X a=s0 at e1 e2 e3 kf wr1;have HE:=Kd2 e2 e3;have HA:=Kd2 ha hb;have hq:(if keep s0=true then [(a,b)] else []).length≤1 :=(by split<;>simp);have hq1:n'+1≤maxLen :=(by unfold maxLen;omega);have hq2:(n'+1)*16≤140737488355328 :=(by omega);clear hcb hpr hxl hE3 hE4 hM ha hb e1 e2 e3 e4 e5 ra hk1 eA;go_wp2_with fail;refine kf.mono ?_;rintro e w4 ⟨rfl,b4⟩;have s4:=hst.out.under b4;clear kf b4 l1 ca cb hst;generalize keep s0=kp at HE hq ⊢
       cases kp with
       | false=>
         have S4:=Kd s4;clear s4;go_wp2
         go_roundw
         case rel=>exact⟨k+1,n',Nat.succ_le_of_lt KL.out,by go_num,by rw[HE.out.1],by omega,Kd (by rw[HE.out.2,hn'.out];simp),Kd (by rw[HE.out.2];simpa using S4.out)⟩
         case measure=>have:=KL.out;simp[intOf];omega
       | true=>
         obtain⟨ca,-⟩:=s4.tail.cellAt (j:=k) (u:=.int .i64 a) (by rw[List.getElem?_map,HA.out.1];rfl);obtain⟨cb,-⟩:=s4.tail.cellAt (j:=k+1) (u:=.int .i64 b) (by rw[List.getElem?_map,HA.out.2];rfl);have S4:=Kd s4;clear s4;go_wp2_with fail
         go_region_held3 (fun w'=>w'.cell? ⟨g,k,none⟩=some (.int .i64 a)∧w'.cell? ⟨g,k+1,none⟩=some (.int .i64 b))
          (first
            |exact⟨ca,cb⟩
            |exact⟨((S4.out.alloc0 _).drew.tail.cellAt (by rw[List.getElem?_map,HA.out.1];rfl)).1,((S4.out.alloc0 _).drew.tail.cellAt (by rw[List.getElem?_map,HA.out.2];rfl)).1⟩
            |exact e8
            |fail)
          (first
            | (refine Ee 41 (te:=79) #[.int .i64 a,.int .i64 b] S4.out underlying41 Gn rfl (by decide) _ _ (by rfl) (by rfl) (by rfl) (by rfl) rfl (by intro u hu;simp at hu;rcases hu with rfl|rfl<;>rfl) hq1 hq2 ?_
               intro gg cap w5 h8
               have e8:w5.cell? ⟨g,k,none⟩=some (.int .i64 a)∧w5.cell? ⟨g,k+1,none⟩=some (.int .i64 b):=⟨(h8.tail.cellAt (by rw[List.getElem?_map,HA.out.1];rfl)).1,(h8.tail.cellAt (by rw[List.getElem?_map,HA.out.2];rfl)).1⟩)
            |fail)
         have H8:=Kd h8;clear h8 e8 ca cb;go_wp2
         go_roundw
         case rel =>refine⟨k+1,n'+1,Nat.succ_le_of_lt KL.out,by go_num,by rw[HE.out.1],by omega,Kd (by rw[HE.out.2,hn'.out];simp),Kd ?_⟩;rw[HE.out.2,List.flatMap_append];exact H8.out
         case measure=>have:=KL.out;simp[intOf];omega
      ·obtain rfl:k=m:=Nat.le_antisymm hk (Nat.le_of_not_lt hlt)
       have hge:decide ((k:Int)<(k:Int))=false :=(by simp);obtain⟨hcb,hpr,hxl,hE3,hE4,hM⟩:=HC.out;rw[List.take_of_length_le (by rw[←EN.out];exact Nat.le_refl _)] at hn' hst;obtain⟨E0,hE1,hE2,hE5⟩:=Tm.E2 X hpr;have hsr:=Tm.Yo keep X E0 0 hE5;have hsp:=Tm.Ki keep X E0 0 hE5 (Int.le_refl _) (fun z hz=>by rw[hE2] at hz;exact Int.le_of_eq (Option.some.inj hz).symm);rw[←hE1] at hsr hsp;generalize Tm.Jj keep X (Tm.J4 X)=s at hcb hsr hsp hn' hst;have hcn:Tm.Q9 s=Tm.Ij keep L :=(by rw[←T9 (l:=s) (s:=s) (by rw[Tm.clips_prop hsp]) hsr,hcb]);have kc:=Wh s _ _ wr (hst.out.setOf hn'.out) (by have:=hn'.out;omega);rw[hcn] at kc;have ST:=Kd hst.out;clear hcb hpr hxl hE3 hE4 hM hE1 hE2 hE5 hsr hsp hcn hst hn';go_wp2_with fail;refine kc.mono ?_;rintro e w5 ⟨v',rfl,b5,h5⟩;have B5:=Kd2 (ST.out.below.trans (b5.mono ST.out.size)) (h5.mono (fun _ hk=>Nat.le_trans ST.out.size hk));clear kc b5 h5;go_wp2;go_ret;exact⟨v',rfl,B5.out.1,B5.out.2⟩
    ·have ekl:=invI_lit hkey
     subst ekl
     have hxe:x∈Tm.J4 X:=by
      by_cases hx:x∈Tm.J4 X
      ·exact hx
      ·have:=HC.out.2.2.2.2.2.2 x hx
       unfold kI at this;rw[this] at hMk
       cases hMk
     have hcm:=hcame.out.step (x:=x) hlk hxe;have S1:=Kd s1.swap;have CM:=Kd hcm;have MO:=Kd hst.out.left_eq;have q1:q.length+1≤maxLen :=(by unfold maxLen;omega);have q2:(q.length+1)*8≤140737488355328 :=(by omega);have LT:=Kd hlt;clear hkey hlk hMk s1 hcm hst hcame hxe hlt;go_wp2_with (at_builtin;go_must (refine Vr 54 S1.out underlying54 Wg rfl rfl _ _ rfl rfl rfl rfl q1 q2 ?_);intro v2 w8 h9);have h10:=h9.swap;refine⟨⟨_,cnt',q++[x],by rw[List.length_append];have:=LT.out;simp;omega,CM,Kd ?_⟩,?_⟩
     ·rw[List.map_append,List.length_append]
      exact h10
     ·rw[h10.left_eq,MO.out]
      exact LT.out
theorem uni1_spec (n:Int) (W:World):Calls prog 276 #[.int .i64 n] W fun e w'=>e=.returned (.bool (decide (0<n)))∧Below W.heap.size W w':=by go_enter func276,ntmps276;go_wp2;go_ret;exact⟨rfl,Below.refl _ _⟩
theorem com1_spec (n:Int) (W:World):Calls prog 141 #[.int .i64 n] W fun e w'=>e=.returned (.bool (decide (n=0)))∧Below W.heap.size W w':=by go_enter func141,ntmps141;go_wp2;go_ret;exact⟨rfl,Below.refl _ _⟩
theorem int1_spec (n:Int) (g N c:Nat) (A:Option Addr) (W:World) (h:W.cell? ⟨g,0,none⟩=some (.slice A N c)):Calls prog 140 #[.int .i64 n,.pointer (some ⟨g,0,none⟩)] W fun e w'=>e=.returned (.bool (decide (n=(N:Int))))∧Below W.heap.size W w':=by go_enter func140,ntmps140;go_wp2;go_ret;exact⟨rfl,Below.refl _ _⟩
theorem sets1 {w:World} {v:Value} {s:List Tm.Sp} {te:TypeId} (h:Qr w (fun _=>True) v s):Rc (w.alloc (.cells #[v] te)) (fun _=>True) (.slice (some ⟨w.heap.size,0,none⟩) 1 1) [s]:=by
 have b:=Uc.new w te #[v];refine⟨_,1,[v],rfl,Nat.le_refl _,by decide,.inr ⟨w.heap.size,0,rfl,trivial,b.lt,fun j hj=>?_⟩,rfl,fun i hi u hu=>?_⟩
 ·match j,hj with
  |0,_=>exact b.cell 0
 ·match i,hi,hu with
  |0,_,hu =>obtain rfl:=Option.some.inj hu;exact h.below (b1 w _)
theorem sets2 {w:World} {v u:Value} {s t:List Tm.Sp} {te:TypeId} (h:Qr w (fun _=>True) v s) (h2:Qr w (fun _=>True) u t):Rc (w.alloc (.cells #[v,u] te)) (fun _=>True) (.slice (some ⟨w.heap.size,0,none⟩) 2 2) [s,t]:=by
 have b:=Uc.new w te #[v,u];refine⟨_,2,[v,u],rfl,Nat.le_refl _,by decide,.inr ⟨w.heap.size,0,rfl,trivial,b.lt,fun j hj=>?_⟩,rfl,fun i hi x hx=>?_⟩
 ·match j,hj with
  |0,_=>exact b.cell 0
  |1,_=>exact b.cell 1
 ·match i,hi,hx with
  |0,_,hx =>obtain rfl:=Option.some.inj hx;exact h.below (b1 w _)
  |1,_,hx =>obtain rfl:=Option.some.inj hx;exact h2.below (b1 w _)
theorem Qr.shape {w:World} {F:Nat→Prop} {v:Value} {s:List Tm.Sp} (h:Qr w F v s):∃ A n c,v=.slice A n c:=by obtain⟨A,c,e,-⟩:=h;exact⟨A,_,c,e⟩
theorem Qr.any {w:World} {F:Nat→Prop} {v:Value} {s:List Tm.Sp} (h:Qr w F v s):Qr w (fun _=>True) v s:=h.mono (fun _ _=>trivial)
theorem Kz (s:List Tm.Sp) (v:Value) (F:Nat→Prop) (w:World) (h:Qr w F v s) (hl:s.length≤4294967296):
 Calls prog 88 #[v] w fun e w'=>∃ v',e=.returned v'∧Below w.heap.size w w'∧Qr w' (fun k=>w.heap.size≤k) v' (Tm.Zc s):=by
 obtain⟨A,n,c,rfl⟩:=h.shape;have k:=K3 141 #[] (enters_of func141 (by kernel_rfl) rfl) (fun n=>decide (n=0)) [s] _ _ _ (sets1 (te:=41) h.any) (by simp) (fun i hi=>by match i,hi with|0,_=>exact hl) (fun n W _=>com1_spec n W);clear h;go_enter func88,ntmps88;go_wp2_with fail;refine k.mono ?_;rintro e w' ⟨v',rfl,b,hs⟩;have B:=Kd2 ((b1 w _).trans (b.mono (by simp))) (hs.mono (fun k hk=>Nat.le_trans (by simp) hk:∀ k,_→w.heap.size≤k));clear k b hs;go_wp2;go_ret;exact⟨v',rfl,B.out.1,B.out.2⟩
theorem union_spec (a b:List Tm.Sp) (v:Value) (F:Nat→Prop) (w:World) (h:Rc w F v [a,b]) (ha:a.length≤4294967296) (hb:b.length≤4294967296):
 Calls prog 260 #[v] w fun e w'=>∃ v',e=.returned v'∧Below w.heap.size w w'∧Qr w' (fun k=>w.heap.size≤k) v' (Tm.Yh a b):=by
 have k:=K3 276 #[] (enters_of func276 (by kernel_rfl) rfl) (fun n=>decide (0<n)) [a,b] v F w h (by simp) (fun i hi=>by match i,hi with|0,_=>exact ha|1,_=>exact hb) (fun n W _=>uni1_spec n W);clear h;go_enter func260,ntmps260;go_wp2_with fail;refine k.mono ?_;rintro e w' ⟨v',rfl,b,hs⟩;have B:=Kd2 b hs;clear k b hs;go_wp2;go_ret;exact⟨v',rfl,B.out.1,B.out.2⟩
theorem Tk (a b:List Tm.Sp) (v:Value) (F:Nat→Prop) (w:World) (h:Rc w F v [a,b]) (ha:a.length≤4294967296) (hb:b.length≤4294967296):
 Calls prog 87 #[v] w fun e w'=>∃ v',e=.returned v'∧Below w.heap.size w w'∧Qr w' (fun k=>w.heap.size≤k) v' (Tm.Xd a b):=by
 have hv:∃ A c,v=.slice A 2 c:=by obtain⟨A,c,vs,e,_⟩:=h;exact⟨A,c,e⟩
 obtain⟨A,c,rfl⟩:=hv
 have k:=K3 140 #[.pointer (some ⟨w.heap.size,0,none⟩)] (enters_of func140 (by kernel_rfl) rfl) (fun n=>decide (n=2)) [a,b] _ F (w.alloc (.cells #[.slice A 2 c] 233)) (h.keep (Qm.of_below (b1 w _))) (by simp) (fun i hi=>by match i,hi with|0,_=>exact ha|1,_=>exact hb)
  (fun n W hW=>int1_spec n w.heap.size 2 c A W ((hW.cell (by simp)).trans (one_new w _ _)))
 clear h;go_enter func87,ntmps87;go_wp2_with fail;refine k.mono ?_;rintro e w' ⟨v',rfl,b,hs⟩;have B:=Kd2 ((b1 w _).trans (b.mono (by simp))) (hs.mono (fun k hk=>Nat.le_trans (by simp) hk:∀ k,_→w.heap.size≤k));clear k b hs;go_wp2;go_ret;exact⟨v',rfl,B.out.1,B.out.2⟩
theorem K0 (s:List Tm.Sp):(Tm.Zc s).length≤4294967296:=by have:=(Tm.Bd s).len (by decide);omega
theorem minus_spec (a b:List Tm.Sp) (v u:Value) (F G:Nat→Prop) (w:World) (h:Qr w F v a) (h2:Qr w G u b) (ha:a.length≤4294967296) (hb:b.length≤4294967296):
 Calls prog 50 #[v,u] w fun e w'=>∃ v',e=.returned v'∧Below w.heap.size w w'∧Qr w' (fun k=>w.heap.size≤k) v' (Tm.Xd a (Tm.Zc b)):=by
 have k:=Kz b u G w h2 hb;obtain⟨A,n,c,rfl⟩:=h.shape;have H:=Kd h;clear h h2;go_enter func50,ntmps50;go_wp2_with fail;refine k.mono ?_;rintro e w1 ⟨v1,rfl,x1,hs⟩;obtain⟨A1,n1,c1,rfl⟩:=hs.shape;have k2:=Tk a (Tm.Zc b) _ _ _ (sets2 (te:=41) (H.out.below x1).any hs.any) ha (K0 b);have X1:=Kd x1;clear k x1 hs;go_wp2_with fail;refine k2.mono ?_;rintro e w2 ⟨v2,rfl,x2,hs⟩;have X2:=Kd2 ((X1.out.alloc X1.out.size _).trans (x2.mono (by have:=X1.out.size;simp;omega))) (hs.mono (fun k hk=>by have:=X1.out.size;simp at hk;omega:∀ k,_→w.heap.size≤k));clear k2 x2 hs;go_wp2;go_ret;exact⟨v2,rfl,X2.out.1,X2.out.2⟩
theorem I8 (a b:List Tm.Sp) (v u:Value) (F G:Nat→Prop) (w:World) (h:Qr w F v a) (h2:Qr w G u b) (ha:a.length≤4294967296) (hb:b.length≤4294967296):
 Calls prog 28 #[v,u] w fun e w'=>e=.returned (.bool (Tm.Fn a b))∧Below w.heap.size w w':=by
 have k:=minus_spec a b v u F G w h h2 ha hb
 have hr:Tm.Fn a b=decide ((Tm.Xd a (Tm.Zc b)).length=0):=by
  unfold Tm.Fn
  cases Tm.Xd a (Tm.Zc b)<;>simp
 obtain⟨n,hn⟩:∃ n,(Tm.Xd a (Tm.Zc b)).length=n:=⟨_,rfl⟩;rw[hr,hn];clear h h2;go_enter func28,ntmps28;go_wp2_with fail;refine k.mono ?_;rintro e w1 ⟨v1,rfl,x1,⟨A,c,rfl,-,-,-⟩⟩;have X1:=Kd x1;clear k x1;rw[hn];clear hn hr;have e0:((n:Int)==0)=decide (n=0):=by rw[Bool.eq_iff_iff];simp
 go_wp2;go_ret;exact⟨rfl,X1.out⟩
def Cu (s:List Tm.Sp):Option Int:=(Tm.Q9 s).head?.map (·.1)
theorem least_spec (s:List Tm.Sp) (v:Value) (F:Nat→Prop) (w:World) (h:Qr w F v s) (hl:s.length≤4294967296):
 Calls prog 198 #[v] w fun e w'=>e=.returned (.tuple #[.int .i64 ((Cu s).getD 0),.bool (Cu s).isSome])∧Below w.heap.size w w':=by
 have k:=Wh s v F w h hl;unfold Cu;clear h;generalize Tm.Q9 s=c at k ⊢
 cases c with
 |nil =>go_enter func198,ntmps198;go_wp2_with fail;refine k.mono ?_;rintro e w1 ⟨v1,rfl,x1,⟨A,c,rfl,-,-,-⟩⟩;have X1:=Kd x1;clear k x1;go_wp2;go_ret2;exact⟨rfl,X1.out⟩
 |cons x c =>go_enter func198,ntmps198;go_wp2_with fail;refine k.mono ?_;rintro e w1 ⟨v1,rfl,x1,⟨A,cp,rfl,-,-,hr⟩⟩;obtain⟨b,off,rfl,hb,c0,c1⟩:=hr.spans 0 (by simp);have hn:(0:Int)<((x::c).length:Int) :=(by rw[List.length_cons];omega);generalize (x::c).length=n at hn ⊢;have X1:=Kd x1;clear k x1 hr;simp at c0 c1;go_wp2;go_ret2;exact⟨rfl,X1.out⟩
def My (s:List Tm.Sp):Bool:=match Tm.Q9 s with
 |[]=>true
 |[x]=>decide (x.2=1000000)
 |_=>false
theorem I0 (s:List Tm.Sp) (v:Value) (F:Nat→Prop) (w:World) (h:Qr w F v s) (hl:s.length≤4294967296):
 Calls prog 47 #[v] w fun e w'=>e=.returned (.bool (My s))∧Below w.heap.size w w':=by
 have k:=Wh s v F w h hl;unfold My;clear h;generalize Tm.Q9 s=c at k ⊢
 match c,k with
 |[],k =>go_enter func47,ntmps47;go_wp2_with fail;refine k.mono ?_;rintro e w1 ⟨v1,rfl,x1,⟨A,c,rfl,-,-,-⟩⟩;have X1:=Kd x1;clear k x1;go_wp2;go_ret;exact⟨rfl,X1.out⟩
 |[x],k =>go_enter func47,ntmps47;go_wp2_with fail;refine k.mono ?_;rintro e w1 ⟨v1,rfl,x1,⟨A,cp,rfl,-,-,hr⟩⟩;obtain⟨b,off,rfl,hb,c0,c1⟩:=hr.spans 0 (by simp);have X1:=Kd x1;clear k x1 hr;simp at c0 c1;obtain⟨x0,x1⟩:=x;dsimp only at c0 c1;have e0:(x1==1000000)=decide (x1=1000000) :=(by rw[Bool.eq_iff_iff];simp);go_wp2;go_ret;exact⟨rfl,X1.out⟩
 |x::y::c,k =>go_enter func47,ntmps47;go_wp2_with fail;refine k.mono ?_;rintro e w1 ⟨v1,rfl,x1,⟨A,cp,rfl,-,-,-⟩⟩;obtain⟨n,hn⟩:∃ n,(x::y::c).length=n:=⟨_,rfl⟩;have X1:=Kd x1;clear k x1;have n1:((n:Int)==0)=false:=beq_eq_false_iff_ne.2 (by rw[←hn,List.length_cons];omega);have n2:((n:Int)==1)=false:=beq_eq_false_iff_ne.2 (by rw[←hn,List.length_cons,List.length_cons];omega);rw[hn];clear hn;go_wp2;go_ret;exact⟨rfl,X1.out⟩
end Go.Proofs.YtiefajiebebgoaaGreatDoor
