/-
  The iterator G1 the Jo of a search,in the program. Conditions: none.
-/
import Derived.Test.YtiefajiebebgoaaGreatDoorQHd
import Derived.Test.YtiefajiebebgoaaGreatDoorQPf
import Derived.RangeFuncNested
import Derived.RangeFuncBound
import Derived.RangeFuncCalls
import Derived.RangeFuncLeaves
import Derived.Shelf.Abstract
import Derived.Shelf.RegionOpen
import Derived.WalkKit
import Derived.OwnWalkIn
import Derived.TacticsInMore
import Derived.LoopNIn
import Derived.LoopIn
import Derived.Maps.AppendAt
set_option maxRecDepth 100000
set_option maxHeartbeats 4000000
open Go.Proofs.Tryz
namespace Go.Proofs.YtiefajiebebgoaaGreatDoor
set_option linter.unusedVariables false
open Go.RowKit Go.Shelf
attribute [local go_sem] Oper.semAt_some
section
variable {α β γ:Type} (f:Nat→α→β)
theorem Yi:∀(L:List α) (i k:Nat) (hk:k<L.length),Tm.Ql f i (L.take (k+1))=Tm.Ql f i (L.take k)++[f (i+k) L[k]]
 |a::L,i,0,_=>by simp[Tm.Ql]
 |a::L,i,k+1,h=>by have hk:k<L.length :=(by simpa using h);show f i a::Tm.Ql f (i+1) (L.take (k+1))=f i a::(Tm.Ql f (i+1) (L.take k)++[f (i+(k+1)) L[k]]);rw[Yi L (i+1) k hk,show i+1+k=i+(k+1) by omega]
theorem Kt (g:β→γ):∀(L:List α) (i:Nat),(Tm.Ql f i L).map g=Tm.Ql (fun i a=>g (f i a)) i L
 |[],_=>rfl
 |a::L,i=>by show g (f i a)::(Tm.Ql f (i+1) L).map g=g (f i a)::Tm.Ql (fun i a=>g (f i a)) (i+1) L;rw[Kt g L (i+1)]
theorem Ui (h:γ→α):∀(L:List γ) (i:Nat),Tm.Ql f i (L.map h)=Tm.Ql (fun i a=>f i (h a)) i L
 |[],_=>rfl
 |a::L,i=>by show f i (h a)::Tm.Ql f (i+1) (L.map h)=f i (h a)::Tm.Ql (fun i a=>f i (h a)) (i+1) L;rw[Ui h L (i+1)]
theorem Jg:∀(L:List α) (i:Nat),(Tm.Ql f i L).length=L.length
 |[],_=>rfl
 |a::L,i=>by show (Tm.Ql f (i+1) L).length+1=L.length+1;rw[Jg L (i+1)]
theorem Jy:∀(L:List α) (i k:Nat) (hk:k<L.length),f (i+k) L[k]∈Tm.Ql f i L
 |a::L,i,0,_=>List.mem_cons_self ..
 |a::L,i,k+1,h=>by have hk:k<L.length :=(by simpa using h);have:=Jy L (i+1) k hk;rw[show i+1+k=i+(k+1) by omega] at this;exact List.mem_cons_of_mem _ this
end
abbrev Bj:=Qi×List We
def rtF (i:Nat) (m:We):Zq:=(⟨m.1,[],0,i⟩,m.2)
def El (d:Bj) (i:Nat) (m:We):Zq:=(⟨m.1,d.1.path,Jt d.1,i⟩,m.2)
def J9 (Mr:List We) (Ds:List Bj):List Zq:=Tm.Ql rtF 0 Mr++Ds.flatMap fun d=>Tm.Ql (El d) 0 d.2
theorem needsV_fst (Mr:List We) (Ds:List Bj) (h:∀ d∈Ds,d.2.map Prod.fst=d.1.reqs):(J9 Mr Ds).map Prod.fst=Tm.Jo (Mr.map Prod.fst) ((Ds.map Prod.fst).map Qf):=by
 unfold J9 Tm.Jo;rw[List.map_append,Kt,Ui]
 congr 1
 induction Ds with
 |nil=>rfl
 | cons d Ds ih=>
   rw[List.flatMap_cons,List.map_append,ih fun d hd=>h d (List.mem_cons_of_mem _ hd),List.map_cons,List.map_cons,List.flatMap_cons,Kt]
   congr 1
   show _=Tm.Ql _ 0 d.1.reqs;rw[←h d (List.mem_cons_self ..),Ui];rfl
structure NdMem (w:World) (g:Nat) (Mr:List We) (Ds:List Bj) (rA:Option Addr) (rC:Nat) (dA:Option Addr) (dC:Nat):Prop where
 c0:w.cell? ⟨g,0,none⟩=some (.slice rA Mr.length rC)
 r0:Z9 w (fun _=>True) rA (Mr.flatMap Mp)
 c7:w.cell? ⟨g,7,none⟩=some (.slice dA Ds.length dC)
 r7:Z9 w (fun _=>True) dA ((Ds.map Prod.fst).flatMap Gf)
 rq:∀ d∈Ds,∃ A c,d.1.rv=.slice A d.2.length c∧Z9 w (fun _=>True) A (d.2.flatMap Mp)
 ln:Mr.length≤1048576∧Ds.length≤1048576∧∀ d∈Ds,d.2.length≤1048576
 st:(∀ m∈Mr,∃ A n c,m.2=.slice A n c)∧∀ d∈Ds,∀ m∈d.2,∃ A n c,m.2=.slice A n c
theorem NdMem.below {w w':World} {g:Nat} {Mr:List We} {Ds:List Bj} {rA:Option Addr} {rC:Nat} {dA:Option Addr} {dC:Nat} (h:NdMem w g Mr Ds rA rC dA dC) (hb:Below w.heap.size w w'):NdMem w' g Mr Ds rA rC dA dC where
 c0:=(hb.cell (p:=⟨g,0,none⟩) (World.block_lt_of_cell? w _ h.c0)).trans h.c0
 r0:=h.r0.below hb
 c7:=(hb.cell (p:=⟨g,7,none⟩) (World.block_lt_of_cell? w _ h.c7)).trans h.c7
 r7:=h.r7.below hb
 rq d hd:=by obtain⟨A,c,e,hr⟩:=h.rq d hd;exact⟨A,c,e,hr.below hb⟩
 ln:=h.ln
 st:=h.st
def Fl (w0:World) (bx g:Nat) (W:World):Prop:=Below w0.heap.size w0 W∧W.cell? ⟨bx,0,none⟩=some (.pointer (some ⟨g,0,none⟩))
theorem Fl.alloc {w0 W:World} {bx g:Nat} (h:Fl w0 bx g W) (o:Obj):Fl w0 bx g (W.alloc o):=
 ⟨h.1.alloc h.1.size o,((b1 W o).cell (p:=⟨bx,0,none⟩) (World.block_lt_of_cell? W _ h.2)).trans h.2⟩
def CaKeep (W W':World):Prop:=∀(k:Nat) (cs:Array Value) (fr:Nat×Nat),W.heap[k]?=some (Obj.cells cs 175 fr)→W'.heap[k]?=some (Obj.cells cs 175 fr)
def Mk (w0:World) (bx g:Nat) (A B:World):Prop:=(Fl w0 bx g A→Fl w0 bx g B)∧CaKeep A B
theorem Mk.trans {w0 A B C:World} {bx g:Nat} (h:Mk w0 bx g A B) (k:Mk w0 bx g B C):Mk w0 bx g A C:=⟨fun x=>k.1 (h.1 x),fun i cs fr e=>k.2 i cs fr (h.2 i cs fr e)⟩
abbrev NdT (Mr:List We) (Ds:List Bj):={ x:Zq // x∈J9 Mr Ds }
theorem O6 (n:Nat) (hn:1≤n) (w0 wl:World) (bx g:Nat) (Mr:List We) (Ds:List Bj) (rA:Option Addr) (rC:Nat) (dA:Option Addr) (dC:Nat) (hm:NdMem w0 g Mr Ds rA rC dA dC) (hb:Fl w0 bx g wl):
 SeqStopsK Fence.wide n prog 199 #[.pointer (some ⟨bx,0,none⟩)] (fun x:NdT Mr Ds=>#[M9 x.1]) (Mk w0 bx g) (fun xs=>xs.map Subtype.val=J9 Mr Ds) (fun _=>True) (J9 Mr Ds).length wl:=fun l J Jx W hW hJ hJx hY h0=>by
 have hB0:Fl w0 bx g W:=⟨hb.1.trans (hW.mono hb.1.size),(hW.cell (p:=⟨bx,0,none⟩) (World.block_lt_of_cell? wl _ hb.2)).trans hb.2⟩;clear hb;have HM:=Kd hm;have HY:=Kd hY;have HB0:=Kd2 hB0 h0;have hx:=hB0.2;have c0:=(hm.below hB0.1).c0;have ln:=hm.ln.1;have e0:W.cell? ⟨g,0,none⟩=some (.slice rA Mr.length rC):=c0;obtain⟨R,hR⟩:∃ R,Mr.length=R:=⟨_,rfl⟩;rw[hR] at c0;have HR:=Kd hR;clear hm hY hB0 h0 e0 ln hR;refine callsIn_of_wp func199 rfl trivial ?_ rfl;simp only[ntmps199,List.size_toArray,List.length_cons,List.length_nil,Nat.reduceAdd,Nat.reduceSub,Array.replicate_succ,Array.replicate_zero,List.push_toArray,List.append_toArray,List.nil_append,List.cons_append]
 gi_wp2
 gi_loopw [14] (fun i wr=>∃(k:Nat) (Vu:List (NdT Mr Ds)),k≤R∧i=.int .i64 k∧Hid (Vu.map Subtype.val=Tm.Ql rtF 0 (Mr.take k))∧Hid (Fl w0 bx g wr∧J Vu wr)) (fun i _=>R-(intOf i).toNat)
 case atStart=>exact⟨0,[],Nat.zero_le _,rfl,Kd rfl,HB0⟩
 case round=>
  obtain⟨k,Vu,hk,rfl,hp,hw⟩:=hrel
  by_cases hlt:k<R
  ·have hkM:k<Mr.length:=by rw[HR.out];exact hlt
   obtain⟨hB,hJ0⟩:=hw.out;have hm:=HM.out.below hB.1;obtain⟨b,off,rfl,hbl,q0,q1⟩:=Jk hm.r0 hkM
   have hmem:rtF k Mr[k]∈J9 Mr Ds:=List.mem_append.2 (.inl (by
    have:=Jy rtF Mr 0 k hkM
    rwa [Nat.zero_add] at this))
   have hlen:Vu.length<(J9 Mr Ds).length :=(by have e:=congrArg List.length hp.out;rw[List.length_map,Jg,List.length_take] at e;unfold J9;rw[List.length_append,Jg];omega);obtain⟨Av,nv,cv,ev⟩:=HM.out.st.1 _ (List.getElem_mem hkM);rw[ev] at q1;have hpre:(Vu++[(⟨rtF k Mr[k],hmem⟩:NdT Mr Ds)]).map Subtype.val=Tm.Ql rtF 0 (Mr.take (k+1)) :=(by rw[Yi rtF Mr 0 k hkM,List.map_append,hp.out,Nat.zero_add];rfl);have hxA:M9 (rtF k Mr[k])=.agg #[.string ⟨Mr[k].1.path.toArray⟩,.slice Av nv cv,.string ⟨#[]⟩,.int .i64 0,.int .i64 (k:Int)] :=(by unfold M9 rtF;rw[ev]);generalize Mr[k].1.path=pth at q0 hxA;have hJ1:=hJ Vu wr _ none hJ0 (World.grownBy_alloc wr (.cells #[.string ⟨pth.toArray⟩,.slice Av nv cv] 43) none) (fun r e=>by cases e);have hB1:=hB.alloc (.cells #[.string ⟨pth.toArray⟩,.slice Av nv cv] 43);obtain⟨fn,tmps,assign,body,hy,hRd⟩:=HY.out Vu ⟨rtF k Mr[k],hmem⟩ _ hJ1 hlen;dsimp only at hy;rw[hxA] at hy;have i0:(0:Int)≤(k:Int):=Int.natCast_nonneg _;have i1:(k:Int)<(R:Int):=Int.ofNat_lt.2 hlt;have hRm:R≤9223372036854775807 :=(by have:=HM.out.ln.1;have:=HR.out;omega);have HP:=Kd3 hpre hB1 hlt;clear hp hw hB hJ0 hm hlen hpre hxA hJ1 hB1 ev hbl
   gi_wp2
   refine hRd.mono ?_;rintro e w3 (⟨rfl,hJ3,hk3⟩|⟨rfl,hx3⟩)
   ·have HW:=Kd2 (hk3.1 HP.out.2.1) hJ3
    clear hRd hJ3 hk3 hy
    gi_wp2
    go_roundw
    case rel=>exact⟨k+1,_,Nat.succ_le_of_lt HP.out.2.2,by go_num,Kd HP.out.1,HW⟩
    case measure=>have:=HP.out.2.2;simp[intOf];omega
   ·have HX:=Kd hx3
    clear hRd hx3 hy
    gi_wp2
    refine bodyPost_ret (results_none rfl _ _ _) rfl ?_;exact⟨⟨_,rfl⟩,.inr ⟨_,trivial,HX.out⟩⟩
  ·obtain rfl:k=R:=Nat.le_antisymm hk (Nat.le_of_not_lt hlt)
   have hge:decide ((k:Int)<(k:Int))=false :=(by simp);obtain⟨hB,hJ0⟩:=hw.out;have hm:=HM.out.below hB.1;have hx:=hB.2;have c7:=hm.c7;obtain⟨T,hT⟩:∃ T,Ds.length=T:=⟨_,rfl⟩;rw[hT] at c7;have hp0:Vu.map Subtype.val=Tm.Ql rtF 0 Mr++(Ds.take 0).flatMap fun d=>Tm.Ql (El d) 0 d.2 :=(by rw[hp.out,List.take_of_length_le (Nat.le_of_eq HR.out)];simp);have H2:=Kd4 hT hp0 hB hJ0;clear hp hw hB hJ0 hm hT hp0 HB0
   gi_wp2
   gi_loopw [31] (fun i wi=>∃(j:Nat) (Vu:List (NdT Mr Ds)),j≤T∧i=.int .i64 j∧Hid (Vu.map Subtype.val=Tm.Ql rtF 0 Mr++(Ds.take j).flatMap fun d=>Tm.Ql (El d) 0 d.2)∧Hid (Fl w0 bx g wi∧J Vu wi)) (fun i _=>T-(intOf i).toNat)
   case atStart=>exact⟨0,Vu,Nat.zero_le _,rfl,Kd H2.out.2.1,Kd H2.out.2.2⟩
   case round=>
    obtain⟨j,pre2,hj,rfl,hp,hw⟩:=hrel
    by_cases hjt:j<T
    ·have hjD:j<Ds.length:=by rw[H2.out.1];exact hjt
     obtain⟨hB,hJ0⟩:=hw.out;have hm:=HM.out.below hB.1;obtain⟨b,off,rfl,hbl,q0,q1,q2,q3,q4,q5,q6,q7,q8,q9⟩:=Dw hm.r7 (by rw[List.length_map];exact hjD);rw[List.getElem_map] at q0 q1 q2 q3 q4 q5 q6 q7 q8 q9;obtain⟨Ar,cr,er,-⟩:=hm.rq _ (List.getElem_mem hjD);rw[er] at q5;obtain⟨m,hmm⟩:∃ m,Ds[j].2.length=m:=⟨_,rfl⟩;rw[hmm] at q5;obtain⟨pl,hpl⟩:∃ p,Jt Ds[j].1=p:=⟨_,rfl⟩;obtain⟨pt,hpt⟩:∃ p,Ds[j].1.path=p:=⟨_,rfl⟩;rw[hpl] at q0;rw[hpt] at q1;have HD:=Kd4 hmm hpl hpt er;generalize Ds[j].1.major=v2 at q2;generalize Ds[j].1.minor=v3 at q3;generalize Ds[j].1.patch=v4 at q4;generalize Ds[j].1.arch=v6 at q6;generalize Ds[j].1.iface=v7 at q7;generalize Ds[j].1.cert=v8 at q8;generalize Ds[j].1.yank=v9 at q9;have hJ1:=hJ pre2 wr _ none hJ0 (World.grownBy_alloc wr (.cells #[.int .i64 pl,.string ⟨pt.toArray⟩,.int .i64 v2,.int .i64 v3,.int .i64 v4,.slice Ar m cr,.string ⟨v6.toArray⟩,.string ⟨v7.toArray⟩,.string ⟨v8.toArray⟩,.bool v9] 175) none) (fun r e=>by cases e);have hB1:=hB.alloc (.cells #[.int .i64 pl,.string ⟨pt.toArray⟩,.int .i64 v2,.int .i64 v3,.int .i64 v4,.slice Ar m cr,.string ⟨v6.toArray⟩,.string ⟨v7.toArray⟩,.string ⟨v8.toArray⟩,.bool v9] 175);have i0:(0:Int)≤(j:Int):=Int.natCast_nonneg _;have i1:(j:Int)<(T:Int):=Int.ofNat_lt.2 hjt;have hTm:T≤9223372036854775807 :=(by have:=HM.out.ln.2.1;have:=H2.out.1;omega);have hmM:m≤9223372036854775807 :=(by have:=HM.out.ln.2.2 _ (List.getElem_mem hjD);omega);have hgb:(wr.alloc (.cells #[.int .i64 pl,.string ⟨pt.toArray⟩,.int .i64 v2,.int .i64 v3,.int .i64 v4,.slice Ar m cr,.string ⟨v6.toArray⟩,.string ⟨v7.toArray⟩,.string ⟨v8.toArray⟩,.bool v9] 175)).heap[wr.heap.size]?=some (.cells #[.int .i64 pl,.string ⟨pt.toArray⟩,.int .i64 v2,.int .i64 v3,.int .i64 v4,.slice Ar m cr,.string ⟨v6.toArray⟩,.string ⟨v7.toArray⟩,.string ⟨v8.toArray⟩,.bool v9] 175 (0,0)):=World.alloc_heap_new wr _;have HP:=Kd5 hp.out hB1 hJ1 hgb hjt;clear hp hw hB hJ0 hm er hmm hpl hpt hJ1 hB1 hbl hgb
     gi_wp2
     obtain⟨gb,hgb⟩:∃ gb,wr.heap.size=gb:=⟨_,rfl⟩;rw[hgb] at HP ⊢
     gi_loopw [39] (fun i wi=>∃(q:Nat) (Vu:List (NdT Mr Ds)),q≤m∧i=.int .i64 q∧Hid (Vu.map Subtype.val=(Tm.Ql rtF 0 Mr++(Ds.take j).flatMap fun d=>Tm.Ql (El d) 0 d.2)++Tm.Ql (El Ds[j]) 0 (Ds[j].2.take q))∧Hid (Fl w0 bx g wi∧J Vu wi∧wi.heap[gb]?=some (.cells #[.int .i64 pl,.string ⟨pt.toArray⟩,.int .i64 v2,.int .i64 v3,.int .i64 v4,.slice Ar m cr,.string ⟨v6.toArray⟩,.string ⟨v7.toArray⟩,.string ⟨v8.toArray⟩,.bool v9] 175 (0,0)))) (fun i _=>m-(intOf i).toNat)
     case atStart=>exact⟨0,pre2,Nat.zero_le _,rfl,Kd (by rw[HP.out.1];simp[Tm.Ql]),Kd ⟨HP.out.2.1,HP.out.2.2.1,HP.out.2.2.2.1⟩⟩
     case round=>
      obtain⟨q,pre3,hq,rfl,hp,hw⟩:=hrel;obtain⟨hmm,hpl,hpt,er⟩:=HD.out
      by_cases hqm:q<m
      ·have hqD:q<Ds[j].2.length:=by rw[hmm];exact hqm
       obtain⟨hB,hJ0,hgc⟩:=hw.out;have hm:=HM.out.below hB.1;obtain⟨Ar',cr',er',hrq⟩:=hm.rq _ (List.getElem_mem hjD);obtain⟨rfl,-,rfl⟩:=Value.slice.inj (er.symm.trans er');obtain⟨b2,off2,rfl,hbl2,s0,s1⟩:=Jk hrq hqD;have n0:=(Z8 hgc 0).1;have n1:=(Z8 hgc 1).1;have ngl:gb<wr.heap.size:=(Array.getElem?_eq_some_iff.1 hgc).1
       have hmem:El Ds[j] q Ds[j].2[q]∈J9 Mr Ds:=List.mem_append.2 (.inr (List.mem_flatMap.2 ⟨_,List.getElem_mem hjD,by
        have:=Jy (El Ds[j]) Ds[j].2 0 q hqD
        rwa [Nat.zero_add] at this⟩))
       have hlen:pre3.length<(J9 Mr Ds).length:=by
        have e:=congrArg List.length hp.out;rw[List.length_map] at e;rw[e];unfold J9
        conv=>rhs;rw[show Ds=Ds.take j++Ds[j]::Ds.drop (j+1) by rw[←List.drop_eq_getElem_cons hjD,List.take_append_drop]]
        rw[List.flatMap_append,List.flatMap_cons];simp only[List.length_append,Jg,List.length_take];omega
       obtain⟨Av,nv,cv,ev⟩:=HM.out.st.2 _ (List.getElem_mem hjD) _ (List.getElem_mem hqD);rw[ev] at s1;have hpre:(pre3++[(⟨El Ds[j] q Ds[j].2[q],hmem⟩:NdT Mr Ds)]).map Subtype.val=(Tm.Ql rtF 0 Mr++(Ds.take j).flatMap fun d=>Tm.Ql (El d) 0 d.2)++Tm.Ql (El Ds[j]) 0 (Ds[j].2.take (q+1)) :=(by rw[Yi (El Ds[j]) Ds[j].2 0 q hqD,List.map_append,hp.out,Nat.zero_add,List.append_assoc];rfl);have hxA:M9 (El Ds[j] q Ds[j].2[q])=.agg #[.string ⟨Ds[j].2[q].1.path.toArray⟩,.slice Av nv cv,.string ⟨pt.toArray⟩,.int .i64 pl,.int .i64 (q:Int)] :=(by unfold M9 El;rw[ev,hpl,hpt]);generalize Ds[j].2[q].1.path=pth at s0 hxA;have hJ1:=hJ pre3 wr _ none hJ0 (World.grownBy_alloc wr (.cells #[.string ⟨pth.toArray⟩,.slice Av nv cv] 43) none) (fun r e=>by cases e);have hB1:=hB.alloc (.cells #[.string ⟨pth.toArray⟩,.slice Av nv cv] 43);have hgc1:(wr.alloc (.cells #[.string ⟨pth.toArray⟩,.slice Av nv cv] 43)).heap[gb]?=some (.cells #[.int .i64 pl,.string ⟨pt.toArray⟩,.int .i64 v2,.int .i64 v3,.int .i64 v4,.slice (some ⟨b2,off2,none⟩) m cr,.string ⟨v6.toArray⟩,.string ⟨v7.toArray⟩,.string ⟨v8.toArray⟩,.bool v9] 175 (0,0)):=(Below.heap_alloc wr _ gb (Array.getElem?_eq_some_iff.1 hgc).1).trans hgc;obtain⟨fn,tmps,assign,body,hy,hRd⟩:=HY.out pre3 ⟨El Ds[j] q Ds[j].2[q],hmem⟩ _ hJ1 hlen;dsimp only at hy;rw[hxA] at hy;have i0':(0:Int)≤(q:Int):=Int.natCast_nonneg _;have i1':(q:Int)<(m:Int):=Int.ofNat_lt.2 hqm;have HQ:=Kd4 hpre hB1 hgc1 hqm;clear hp hw hB hJ0 hm hlen hpre hxA hJ1 hB1 ev hbl2 hgc hgc1 hrq er' er hmm hpl hpt
       gi_wp2
       refine hRd.mono ?_;rintro e w3 (⟨rfl,hJ3,hk3⟩|⟨rfl,hx3⟩)
       ·have HW:=Kd3 (hk3.1 HQ.out.2.1) hJ3 (hk3.2 _ _ _ HQ.out.2.2.1)
        clear hRd hJ3 hk3 hy
        gi_wp2
        go_roundw
        case rel=>exact⟨q+1,_,Nat.succ_le_of_lt HQ.out.2.2.2,by go_num,Kd HQ.out.1,HW⟩
        case measure=>have:=HQ.out.2.2.2;simp[intOf];omega
       ·have HX:=Kd hx3
        clear hRd hx3 hy
        gi_wp2
        refine bodyPost_ret (results_none rfl _ _ _) rfl ?_;exact⟨⟨_,rfl⟩,.inr ⟨_,trivial,HX.out⟩⟩
      ·obtain rfl:q=m:=Nat.le_antisymm hq (Nat.le_of_not_lt hqm)
       have hge2:decide ((q:Int)<(q:Int))=false :=(by simp);have hfin:pre3.map Subtype.val=Tm.Ql rtF 0 Mr++(Ds.take (j+1)).flatMap fun d=>Tm.Ql (El d) 0 d.2 :=(by rw[hp.out,List.take_of_length_le (Nat.le_of_eq hmm),List.take_succ_eq_append_getElem hjD,List.flatMap_append,List.append_assoc];simp);have HF:=Kd3 hfin hw.out.1 hw.out.2.1;clear hp hw hfin er hmm hpl hpt
       gi_wp2
       go_roundw
       case rel=>exact⟨j+1,pre3,Nat.succ_le_of_lt HP.out.2.2.2.2,by go_num,Kd HF.out.1,Kd HF.out.2⟩
       case measure=>have:=HP.out.2.2.2.2;simp[intOf];omega
    ·obtain rfl:j=T:=Nat.le_antisymm hj (Nat.le_of_not_lt hjt)
     have hge2:decide ((j:Int)<(j:Int))=false :=(by simp);have hfin:pre2.map Subtype.val=J9 Mr Ds :=(by rw[hp.out,List.take_of_length_le (Nat.le_of_eq H2.out.1)];rfl);have HF:=Kd2 hfin hw.out.2;clear hp hw hfin
     gi_wp2
     go_end0
     exact⟨⟨_,rfl⟩,.inl ⟨pre2,HF.out.1,HF.out.2⟩⟩
end Go.Proofs.YtiefajiebebgoaaGreatDoor
