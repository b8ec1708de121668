/- Lemmas and contracts on what the walks need, several small texts in one. Conditions: as each theorem states. -/
import Derived.Test.YtiefajiebebgoaaGreatDoorQHd
import Derived.Test.YtiefajiebebgoaaGreatDoorQPe
import Derived.DeepKeys4
import Derived.Test.YtiefajiebebgoaaGreatDoorQPg
set_option maxRecDepth 100000
set_option maxHeartbeats 8000000
open Go.Proofs.Tryz
namespace Go.Proofs.YtiefajiebebgoaaGreatDoor
set_option linter.unusedVariables false
open Go.RowKit Go.Shelf
attribute [local go_sem] Oper.semAt_some
def tD (M:List Xn) (j:Nat):Xn:=M.getD j (⟨[],false,[]⟩,.slice none 0 0)
theorem Kh {M:List Xn} {j:Nat} (h:j<M.length):tD M j=M[j]:=by unfold tD;rw[List.getD_eq_getElem?_getD,List.getElem?_eq_getElem h,Option.getD_some]
theorem Ae (p q:Tm.Qk) (x:Bool) (A:Option Addr) (n c g:Nat) (w:World) (hg:w.cell? ⟨g,0,none⟩=some (.string ⟨q.toArray⟩)):
 Calls prog 251 #[.agg #[.string ⟨p.toArray⟩,.bool x,.slice A n c],.pointer (some ⟨g,0,none⟩)] w fun e w'=>e=.returned (.bool (p==q))∧Below w.heap.size w w':=by
 have hl:=World.block_lt_of_cell? w _ hg;have hb:((⟨p.toArray⟩:ByteArray).toList==(⟨q.toArray⟩:ByteArray).toList)=(p==q):=by rw[Q7,Q7]
 go_enter func251,ntmps251;go_wp2;go_ret;exact⟨rfl,b1 w _⟩
theorem Tt (p q:Tm.Qk) (x:Bool) (A:Option Addr) (n c g:Nat) (w:World) (hg:w.cell? ⟨g,0,none⟩=some (.string ⟨q.toArray⟩)):
 Calls prog 151 #[.agg #[.string ⟨p.toArray⟩,.bool x,.slice A n c],.pointer (some ⟨g,0,none⟩)] w fun e w'=>e=.returned (.bool (p==q))∧Below w.heap.size w w':=by
 have hl:=World.block_lt_of_cell? w _ hg;have hb:((⟨p.toArray⟩:ByteArray).toList==(⟨q.toArray⟩:ByteArray).toList)=(p==q):=by rw[Q7,Q7]
 go_enter func151,ntmps151;go_wp2;go_ret;exact⟨rfl,b1 w _⟩
theorem Vq (L:List Tm.Qu) (v:Value) (F:Nat→Prop) (q:Tm.Qk) (w:World) (h:Zs w F v L):
 Calls prog 101 #[v,.string ⟨q.toArray⟩] w fun e w'=>e=.returned (.bool (Tm.Qn L q))∧Below w.heap.size w w':=by
 obtain⟨W1,hW1⟩:∃ W1,w.alloc (.cells #[.string ⟨q.toArray⟩] 9)=W1:=⟨_,rfl⟩;have y1:=(St.nil w).alloc 9 #[.string ⟨q.toArray⟩];rw[hW1] at y1;have hg:=y1.blk.cell 0;obtain⟨A,c,M,rfl,rfl,hc1,hc2,hr,hm⟩:=h.below y1.below
 have k:=Od 151 #[.pointer (some ⟨w.heap.size,0,none⟩)] (enters_of func151 (by kernel_rfl) rfl) A M.length c (fun j=>.string ⟨(tD M j).1.path.toArray⟩) (fun j=>.bool (tD M j).1.abs) (fun j=>(tD M j).2) (fun j=>(tD M j).1.path==q) W1 (Nat.le_trans hc1 hc2)
  (fun j hj=>by
    obtain⟨b,off,e,hb,c0,c1,c2⟩:=Us hr hj;rw[Kh hj]
    exact⟨b,off,e,hb,c0,c1,c2⟩)
  (fun j W hj hb=>by
    rw[Kh hj];obtain⟨A',n',c',e⟩:=(hm M[j] (List.getElem_mem hj)).shape;rw[e]
    exact Tt M[j].1.path q M[j].1.abs A' n' c' w.heap.size W ((hb.cell y1.blk.lt).trans hg))
 have hR:∀ b,Hh (fun j=>(tD M j).1.path==q) M.length b→b=Tm.Qn (M.map Prod.fst) q:=fun b hb=>by rw[hb.list (L:=M) (q:=fun m=>m.1.path==q) (fun j hj=>by rw[Kh hj])];unfold Tm.Qn;rw[List.any_map];rfl
 have HR:=Kd hR;have Z1:=Kd y1.below;clear hr hm hc1 hc2 hR y1 h;go_enter func101,ntmps101;go_wp2_with fail;refine k.mono ?_;rintro e w2 ⟨b,rfl,z2,hb⟩;obtain rfl:=HR.out b hb;have Z2:=Kd (Z1.out.trans (z2.mono Z1.out.size));clear k z2 hb;go_wp2;go_ret;exact⟨rfl,Z2.out⟩
def Ug (A:Option Addr) (M:List Xn):Q3 where
 P w F:=(Z9 w F A (M.flatMap X3)∧∀ m∈M,Qr w F m.2 m.1.set)∧∀ k,F k→k<w.heap.size
 lt h:=h.2
 mod h hm hG:=⟨⟨h.1.1.keep (Qm.of_mod hm hG),fun m hm'=>(h.1.2 m hm').keep (Qm.of_mod hm hG)⟩,fun k hk=>Nat.lt_of_lt_of_le (h.2 k hk) hm.size⟩
theorem St.trv {lo:Nat} {w0 w:World} {Rs:List Q3} {A:Option Addr} {M:List Xn} (h:St lo w0 w (Ug A M::Rs)):Z9 w (fun k=>lo≤k) A (M.flatMap X3)∧∀ m∈M,Qr w (fun k=>lo≤k) m.2 m.1.set:=by obtain⟨F,h1,h2,_⟩:=h.open;exact⟨h1.1.1.mono h2,fun m hm=>(h1.1.2 m hm).mono h2⟩
theorem St.newTrv {lo:Nat} {w0 w w':World} {Rs:List Q3} {A:Option Addr} {M:List Xn} (h:St lo w0 w Rs) (hb:Below w.heap.size w w') (h1:Z9 w' (fun k=>w.heap.size≤k) A (M.flatMap X3)) (h2:∀ m∈M,Qr w' (fun k=>w.heap.size≤k) m.2 m.1.set):St lo w0 w' (Ug A M::Rs):=
 h.new (F:=fun k=>w.heap.size≤k∧k<w'.heap.size) hb ⟨⟨h1.ltR,fun m hm=>(h2 m hm).lt⟩,fun k hk=>hk.2⟩ (fun k hk=>hk.1)
theorem Kj {L C:List Tm.Qu} {q:Tm.Qk} (hc:Tm.Zh L=some C) {i:Nat} {hi:i<C.length} (h1:C.find? (fun t=>t.path==q)=some C[i]) (h2:C.findIdx? (fun t=>t.path==q)=some i):Tm.Zj L q=some (C[i],C.eraseIdx i):=by unfold Tm.Zj;rw[hc];dsimp only;rw[h1];dsimp only;rw[List.eraseP_eq_eraseIdx,h2]
theorem split_none {L C:List Tm.Qu} {q:Tm.Qk} (hc:Tm.Zh L=some C) (h1:C.find? (fun t=>t.path==q)=none):Tm.Zj L q=none:=by unfold Tm.Zj;rw[hc];dsimp only;rw[h1]
theorem split_idle {L:List Tm.Qu} {q:Tm.Qk} (hc:Tm.Zh L=none):Tm.Zj L q=none:=by unfold Tm.Zj;rw[hc]
def SplitP (L:List Tm.Qu) (q:Tm.Qk) (w:World) (e:Ending) (w':World):Prop:=
 (e=.returned (.tuple #[.agg #[.string ⟨#[]⟩,.bool false,.slice none 0 0],.slice none 0 0,.bool false])∧Tm.Zj L q=none∧Below w.heap.size w w')∨
 ∃ (M:List Xn) (i:Nat) (hi:i<M.length) (A0 B:Option Addr) (d:Nat) (A:Option Addr) (n c:Nat),e=.returned (.tuple #[.agg #[.string ⟨M[i].1.path.toArray⟩,.bool M[i].1.abs,.slice A n c],.slice B (M.length-1) d,.bool true])∧M[i].2=.slice A n c∧
   Tm.Zh L=some (M.map Prod.fst)∧Tm.Zj L q=some (M[i].1,(M.eraseIdx i).map Prod.fst)∧M.length≤1048576∧St w.heap.size w w' [Qh 248 3 (.slice B (M.length-1) d) (M.length-1) ((M.eraseIdx i).flatMap X3),Ug A0 M]
theorem Me {L c:List Tm.Qu} (h:Tm.Zh L=some c):c.length≤L.length:=by
 have h1:∀(l a:List Tm.Qu),(l.foldl (fun a t=>Tm.Wn t a) a).length≤l.length+a.length:=by
  have h2:∀(t:Tm.Qu) (a:List Tm.Qu),(Tm.Wn t a).length≤a.length+1:=by
   intro t a
   induction a with
   |nil=>exact Nat.le_refl _
   | cons u a ih=>
     rw[Tm.Wn]
     split
     ·simp
     ·split
      ·simp
      ·rw[List.length_cons,List.length_cons]
       omega
  intro l
  induction l with
  |nil=>intro a;simp
  |cons t l ih =>intro a;rw[List.foldl_cons,List.length_cons];have:=ih (Tm.Wn t a);have:=h2 t a;omega
 unfold Tm.Zh at h
 split at h
 ·cases h
 ·obtain rfl:=Option.some.inj h
  exact Nat.le_trans (List.length_filter_le ..) (by
   have:=h1 L [];rw[List.length_nil,Nat.add_zero] at this
   exact this)
theorem No (L:List Tm.Qu) (v:Value) (F:Nat→Prop) (q:Tm.Qk) (w:World) (h:Zs w F v L) (hs:∀ t∈L,Yk t) (hL:L.length≤1048576):
 Calls prog 206 #[v,.string ⟨q.toArray⟩] w (SplitP L q w):=by
 obtain⟨A,c,ev,-,-⟩:=h.shape;obtain⟨W1,hW1⟩:∃ W1,w.alloc (.cells #[.string ⟨q.toArray⟩] 9)=W1:=⟨_,rfl⟩;have y1:=(St.nil w).alloc 9 #[.string ⟨q.toArray⟩];rw[hW1] at y1;obtain⟨W2,hW2⟩:∃ W2,W1.alloc (.cells #[.string ⟨#[]⟩,.bool false,.slice none 0 0] 248)=W2:=⟨_,rfl⟩;have y2:=y1.alloc 248 #[.string ⟨#[]⟩,.bool false,.slice none 0 0];rw[hW2] at y2;have kc:=Gd L v _ W2 (h.below y2.below) hs hL;subst ev;obtain⟨N,hN⟩:∃ N,L.length=N:=⟨_,rfl⟩;rw[hN] at kc ⊢;have Y2:=Kd y2;have HL:=Kd2 hN hL;clear h hs y1 y2 hN;go_enter func206,ntmps206;go_wp2_with fail;refine kc.mono ?_;rintro e w3 ⟨z3,A3,n3,c3,rfl,ht⟩;clear kc;have y3:=Y2.out.under z3;have hg:=y3.tail.blk.cell 0;obtain⟨A4,c4,M,hM,e4,hc1,hc2,hr,hm⟩:=ht;obtain⟨rfl,rfl,rfl⟩:=Value.slice.inj e4
 have ki:=Pn 251 #[.pointer (some ⟨w.heap.size,0,none⟩)] (enters_of func251 (by kernel_rfl) rfl) A3 M.length c3 (fun j=>.string ⟨(tD M j).1.path.toArray⟩) (fun j=>.bool (tD M j).1.abs) (fun j=>(tD M j).2) (fun j=>(tD M j).1.path==q) w3 (Nat.le_trans hc1 hc2)
  (fun j hj=>by
    obtain⟨b,off,e,hb,c0,c1,c2⟩:=Us hr hj;rw[Kh hj]
    exact⟨b,off,e,hb,c0,c1,c2⟩)
  (fun j W hj hb=>by
    rw[Kh hj];obtain⟨A',n',c',e⟩:=(hm M[j] (List.getElem_mem hj)).shape;rw[e]
    exact Ae M[j].1.path q M[j].1.abs A' n' c' w.heap.size W ((hb.cell y3.tail.blk.lt).trans hg))
 have y3t:=(Y2.out.newTrv z3 hr hm);have Y3:=Kd y3t;have HM:=Kd3 hM hc1 hc2;obtain⟨N3,hN3⟩:∃ N3,M.length=N3:=⟨_,rfl⟩;rw[hN3] at ki ⊢;have HN:=Kd hN3;clear y3 hg hr hm z3 hM hc1 hc2 e4 y3t hN3 hW1 hW2;go_wp2_with fail;refine ki.mono ?_;rintro e w4 ⟨j,rfl,z4,hj⟩;have y4:=(Y3.out.under z4).swap;obtain⟨f0,f1,f2,f3,f4,f5⟩:=G4 y4.blk;have HJ:=Kd hj;have Y4:=Kd y4;clear ki y4 z4 hj
 cases hcan:Tm.Zh L with
 |none =>have HZ:=Kd (split_idle (q:=q) hcan);go_wp2;have y5:=((Y4.out.set_ 0 (.string ⟨#[]⟩)).set_ 1 (.bool false)).set_ 2 (.slice none 0 0);simp only[List.setIfInBounds_toArray,List.set_cons_zero,List.set_cons_succ] at y5;have Y5:=Kd y5;clear y5;generalize ((w4.setCell ⟨W1.heap.size,0,none⟩ (.string ⟨#[]⟩)).setCell ⟨W1.heap.size,1,none⟩ (.bool false)).setCell ⟨W1.heap.size,2,none⟩ (.slice none 0 0)=w5 at Y5 ⊢;go_wp2;refine bodyPost_ret (Hm rfl _ _ _ _ _ _ _ rfl Y5.out.blk underlying248 rfl Xs) rfl ?_;exact .inl ⟨rfl,HZ.out,Y5.out.below⟩
 | some C=>
   obtain⟨hM,hc1,hc2⟩:=HM.out;rw[hcan] at hM;have hM:M.map Prod.fst=C:=hM;have hlen:=Me hcan;rw[←hM,List.length_map] at hlen;have hjj:=IxP.find (L:=M) (q:=fun m=>m.1.path==q) (p:=fun j=>(tD M j).1.path==q) (by rw[HN.out];exact HJ.out) (fun j hj=>by rw[Kh hj]);rcases hjj with⟨rfl,hf⟩|⟨i,hi,rfl,hf,hf2⟩
   ·have HZ:=Kd (split_none (q:=q) hcan (by rw[←hM,List.find?_map,show (fun t:Tm.Qu=>t.path==q) ∘ Prod.fst=fun m:Xn=>m.1.path==q from rfl,hf];rfl))
    clear hf hM;go_wp2;have y5:=((Y4.out.set_ 0 (.string ⟨#[]⟩)).set_ 1 (.bool false)).set_ 2 (.slice none 0 0);simp only[List.setIfInBounds_toArray,List.set_cons_zero,List.set_cons_succ] at y5;have Y5:=Kd y5;clear y5;generalize ((w4.setCell ⟨W1.heap.size,0,none⟩ (.string ⟨#[]⟩)).setCell ⟨W1.heap.size,1,none⟩ (.bool false)).setCell ⟨W1.heap.size,2,none⟩ (.slice none 0 0)=w5 at Y5 ⊢;go_wp2;refine bodyPost_ret (Hm rfl _ _ _ _ _ _ _ rfl Y5.out.blk underlying248 rfl Xs) rfl ?_;exact .inl ⟨rfl,HZ.out,Y5.out.below⟩
   ·have hsp:Tm.Zj L q=some (M[i].1,(M.eraseIdx i).map Prod.fst):=by
     have h1:(M.map Prod.fst).find? (fun t=>t.path==q)=some ((M.map Prod.fst)[i]'(by rw[List.length_map];exact hi)) :=(by rw[List.find?_map,show (fun t:Tm.Qu=>t.path==q) ∘ Prod.fst=fun m:Xn=>m.1.path==q from rfl,hf,List.getElem_map];rfl);have h2:(M.map Prod.fst).findIdx? (fun t=>t.path==q)=some i :=(by rw[List.findIdx?_map];exact hf2);rw[Kj (by rw[hcan,hM]) h1 h2,List.getElem_map,List.eraseIdx_eq_take_drop_succ,List.eraseIdx_eq_take_drop_succ,List.map_append,List.map_take,List.map_drop]
    have HSP:=Kd3 hsp hM hlen;obtain⟨N4,rfl⟩:∃ k,N3=k+1:=⟨N3-1,by have:=HN.out;omega⟩;have hone:∀ m∈M,m.2.oneCell'=true:=fun m hm=>by obtain⟨A,n,c,e⟩:=(Y4.out.tail.trv.2 m hm).shape;rw[e];rfl
    obtain⟨b,off,rfl,-,d0,d1,d2⟩:=Us Y4.out.tail.trv.1 hi;obtain⟨As,ns,cs,hv⟩:=(Y4.out.tail.trv.2 M[i] (List.getElem_mem hi)).shape;have hS0:∀ W (Rs:List Q3),St w.heap.size w W (Ug (some ⟨b,off,none⟩) M::Rs)→W.cell? ⟨b,off+i*3,none⟩=some (.string ⟨M[i].1.path.toArray⟩)∧W.cell? ⟨b,off+i*3+1,none⟩=some (.bool M[i].1.abs)∧W.cell? ⟨b,off+i*3+2,none⟩=some M[i].2:=fun W Rs hW=>by obtain⟨b',off',e,-,q0,q1,q2⟩:=Us hW.trv.1 hi;injection e with e;injection e with e1 e2;subst e1 e2;exact⟨q0,q1,q2⟩
    have kc:∀ W (X:Array Value),St w.heap.size w W [Qa W1.heap.size 248 X,Ug (some ⟨b,off,none⟩) M,Qa w.heap.size 9 #[.string ⟨q.toArray⟩]]→Calls prog 253 #[.slice (some ⟨b,off,none⟩) (N4+1) c3] W fun e w'=>∃ A' c',e=.returned (.slice A' (N4+1) c')∧
     St w.heap.size w w' [Qh 248 3 (.slice A' (N4+1) c') (N4+1) (M.flatMap X3),Qa W1.heap.size 248 X,Ug (some ⟨b,off,none⟩) M,Qa w.heap.size 9 #[.string ⟨q.toArray⟩]]:=fun W X hW=>by
     have k:=cloneT_spec (some ⟨b,off,none⟩) M c3 _ W hW.tail.trv.1 hone (by omega);rw[HN.out] at k;refine k.mono ?_;rintro e w' ⟨A',c',rfl,hs⟩;exact⟨A',c',rfl,hW.graft hs⟩
    have kd:∀ W A' c' (X:Array Value),St w.heap.size w W [Qh 248 3 (.slice A' (N4+1) c') (N4+1) (M.flatMap X3),Qa W1.heap.size 248 X,Ug (some ⟨b,off,none⟩) M,Qa w.heap.size 9 #[.string ⟨q.toArray⟩]]→Calls prog 252 #[.slice A' (N4+1) c',.int .i64 (i:Int),.int .i64 ((i:Int)+1)] W fun e w'=>e=.returned (.slice A' N4 c')∧
     St w.heap.size w w' [Qh 248 3 (.slice A' N4 c') N4 ((M.eraseIdx i).flatMap X3),Qa W1.heap.size 248 X,Ug (some ⟨b,off,none⟩) M,Qa w.heap.size 9 #[.string ⟨q.toArray⟩]]:=fun W A' c' X hW=>
     delT_spec hW HN.out (by have:=HN.out;omega) hone (by have:=HN.out;omega)
    have KC:=Kd kc;have KD:=Kd kd;have hi4:i<N4+1:=by have:=HN.out;omega
    have HF:Hid (∀(B:Option Addr) (d:Nat) (W:World),St w.heap.size w W [Qh 248 3 (.slice B N4 d) N4 ((M.eraseIdx i).flatMap X3),Ug (some ⟨b,off,none⟩) M]→SplitP L q w (.returned (.tuple #[.agg #[.string ⟨M[i].1.path.toArray⟩,.bool M[i].1.abs,.slice As ns cs],.slice B N4 d,.bool true])) W):=Kd (fun B d W hW=>by
     have hNM:N4=M.length-1 :=(by have:=HN.out;omega);refine .inr ⟨M,i,hi,some ⟨b,off,none⟩,B,d,As,ns,cs,by rw[←hNM],hv,by rw[hcan,hM],hsp,by omega,?_⟩;rw[←hNM]
     exact hW)
    rw[hv] at d2 hS0;generalize M[i].1.path=p at d0 hS0 HF;generalize M[i].1.abs=x at d1 hS0 HF;have HS:=Kd hS0;have i0:¬((i:Int)<0) :=(by omega);have i1:(0:Int)≤(i:Int) :=(by omega);have i2:(i:Int)<(N4:Int)+1 :=(by omega);have wr1:IntKind.i64.wrap ((i:Int)+1)=(i:Int)+1 :=(by rw[IntKind.wrap_i64];have:=HSP.out.2.2;have:=HN.out;omega);clear HSP kc kd hS0 hone hv hi hf hf2 hM hsp hlen;go_wp2_with fail;refine wp_region_noPanic ?_;refine wp_region_held_drew (S:=(fun W'=>W'.cell? ⟨b,off+i*3,none⟩=some (.string ⟨p.toArray⟩)∧W'.cell? ⟨b,off+i*3+1,none⟩=some (.bool x)∧W'.cell? ⟨b,off+i*3+2,none⟩=some (.slice As ns cs))) (by kernel_rfl) ?_ (fun hH0=>?_)
    ·exact HS.out _ _ Y4.out.drew.tail
    refine tk 0 25 hH0 ?_;refine tk 1 26 hH0 ?_;refine tk 2 27 hH0 ?_;refine tk 3 28 hH0 ?_;refine tk 4 29 hH0 ?_;refine tk 6 31 hH0 ?_;refine tk 7 32 hH0 ?_;refine tk 8 33 hH0 ?_;refine Zk [5] ?_;refine an 30 fun K hK=>?_
    go_simp;(
     with_reducible refine(KC.out _ _ Y4.out.drew).mono ?_
     rintro e w5 ⟨A5,c5,rfl,y5⟩
     obtain⟨g0,g1,g2,g3,g4,g5⟩:=G4 y5.tail.blk);go_wp2_with fail
    refine hK.out _ _ ?_ (fun hH1=>?_)
    ·exact HS.out _ _ y5.tail.tail
    clear hK K hH0
    try simp only[pu]
    refine Zk [9] ?_;refine an 34 fun K hK=>?_
    go_simp;(
     with_reducible refine(KD.out _ _ _ _ y5).mono ?_
     rintro e w6 ⟨rfl,y6⟩
     obtain⟨h0,h1,h2,h3,h4,h5⟩:=G4 y6.tail.blk);go_wp2_with fail
    refine hK.out _ _ ?_ (fun hH2=>?_)
    ·exact HS.out _ _ y6.tail.tail
    clear hK K hH1
    try simp only[pu]
    refine Zk [10] ?_;refine az fun K hK=>?_;go_simp;refine hK.out _ _ ?_ (fun hH3=>?_)
    ·exact HS.out _ _ (((y6.swap.set_ 0 (.string ⟨p.toArray⟩)).set_ 1 (.bool x)).set_ 2 (.slice As ns cs)).tail.tail
    clear hK K hH2
    try simp only[pu]
    refine tk 11 5 hH3 ?_;refine tk 12 6 hH3 ?_;refine dn ?_ _
    all_goals(refine NoPanic.normal ?_)
    have y7:=((y6.swap.set_ 0 (.string ⟨p.toArray⟩)).set_ 1 (.bool x)).set_ 2 (.slice As ns cs);simp only[List.setIfInBounds_toArray,List.set_cons_zero,List.set_cons_succ] at y7;have Y7:=Kd y7;clear y5 y6 y7 KC KD HS;generalize ((w6.setCell ⟨W1.heap.size,0,none⟩ (.string ⟨p.toArray⟩)).setCell ⟨W1.heap.size,1,none⟩ (.bool x)).setCell ⟨W1.heap.size,2,none⟩ (.slice As ns cs)=w7 at Y7 ⊢;go_wp2;refine bodyPost_ret (Hm rfl _ _ _ _ _ _ _ rfl Y7.out.blk underlying248 rfl Xs) rfl ?_;exact HF.out _ _ _ (Y7.out.pk [1,2])
theorem Ut {lo:Nat} {w0 w:World} {Rs:List Q3} {e:TypeId} {size n:Nat} {v:Value} {xs:List Value} {A:Option Addr} {m c:Nat} {ys:List Value} {G:Nat→Prop} {z:Value} {bytes:Nat} {ops:Array Oper} {o:Oper} {a:Act} {K:Act→World→Prop} {Q:Exit→Act→World→Prop} {E:Prop} (t:TypeId) (h:St lo w0 w (Ja size v n xs::Rs)) (ht:prog.underlying t=some (.slice e)) (hi:(prog.info? e).map (fun i=>(i.zero,i.size,i.bytes))=some (some z,size,bytes)) (hzs:z.cells.size=size)
 (hr:Z9 w G A ys) (hyl:ys.length=m*size) (hsz:0<size) (hone:∀ u∈ys,u.oneCell'=true) (h63:n+m≤maxLen) (hbytes:(n+m)*bytes≤140737488355328)
 (so xo:Operand) (hop:o.op=.call { callee:=.builtin .append,args:=#[so,xo],argTypes:=#[t,t] }) (hgd:o.guard=none) (hs:a.eval so=v) (hx:a.eval xo=.slice A m c)
 (hK:∀ A' c' w',St lo w0 w' (Ja size (.slice A' (n+m) c') (n+m) (xs++ys)::Rs)→K (a.put o.dst (.slice A' (n+m) c')) w'):
 if Region.wanted o (yielded ops a.tmps)=true then Oper.wp prog o a w K Q else E:=by
 rw[if_pos (by unfold Region.wanted;rw[hgd])];obtain⟨A',c',w',hrun,r⟩:=h.qu_push (A:=A) (m:=m) (c:=c) t ht hi hzs hr hyl hsz hone h63 hbytes o.type;unfold Oper.wp;simp[execOp,hop,resolve,invoke,builtin,hs,hx,hrun,Result.andThen];exact hK A' c' w' r
theorem St.rowRd {lo:Nat} {w0 w:World} {Rs:List Q3} {e:TypeId} {size n c:Nat} {A:Option Addr} {xs:List Value} (h:St lo w0 w (Qh e size (.slice A n c) n xs::Rs)) (hl:xs.length=n*size):Z9 w (fun k=>lo≤k) A xs:=by
 rcases Nat.eq_zero_or_pos n with h0|h0
 ·exact .inl (List.eq_nil_of_length_eq_zero (by rw[hl,h0,Nat.zero_mul]))
 ·obtain⟨g,c',eA,hg,-,-⟩:=Zx h.own h0
  obtain⟨rfl,-,rfl⟩:=Value.slice.inj eA;refine .inr ⟨g,0,rfl,h.ownLo.1,h.ownLo.2,fun i hi=>?_⟩;rw[Nat.zero_add];exact(h.cellAt (List.getElem?_eq_getElem hi)).1
theorem St.quRd {lo:Nat} {w0 w:World} {Rs:List Q3} {size n c:Nat} {A:Option Addr} {xs:List Value} (h:St lo w0 w (Ja size (.slice A n c) n xs::Rs)) (hl:xs.length=n*size):Z9 w (fun k=>lo≤k) A xs:=by
 rcases Nat.eq_zero_or_pos n with h0|h0
 ·exact .inl (List.eq_nil_of_length_eq_zero (by rw[hl,h0,Nat.zero_mul]))
 ·obtain⟨b,off,rfl,h1,h2,h3⟩:=h.qu_cell h0
  exact .inr ⟨b,off,rfl,h2,h1,fun j hj=>h3 j _ (List.getElem?_eq_getElem hj)⟩
theorem St.setLo {lo:Nat} {w0 w:World} {Rs:List Q3} {v:Value} {s:List Tm.Sp} (h:St lo w0 w (Aw v s::Rs)):Qr w (fun k=>lo≤k) v s:=by obtain⟨F,h1,h2,_⟩:=h.open;exact h1.1.mono h2
theorem St.blkRd {lo:Nat} {w0 w:World} {Rs:List Q3} {g:Nat} {t:TypeId} {cs:Array Value} (h:St lo w0 w (Qa g t cs::Rs)):Z9 w (fun k=>lo≤k) (some ⟨g,0,none⟩) cs.toList:=by obtain⟨F,h1,h2,_⟩:=h.open;obtain⟨hb,rfl⟩:=h1;refine .inr ⟨g,0,rfl,h2 g rfl,hb.lt,fun j hj=>?_⟩;rw[Nat.zero_add,hb.cell j];simp
def ResP (a b:List Tm.Qu) (q:Tm.Qk) (w:World) (e:Ending) (w':World):Prop:=
 Below w.heap.size w w'∧∃(A:Option Addr) (n c:Nat) (er:Int),e=.returned (.tuple #[.slice A n c,.int .i64 er])∧(er=0∨er=1∨er=8)∧(er=0→∃ l,Tm.Vf a b q=some l∧Zs w' (fun k=>w.heap.size≤k) (.slice A n c) l)∧(¬ er=0→Tm.Vf a b q=none)
theorem Sm {a b:List Tm.Qu} {q:Tm.Qk} (h:Tm.Zj a q=none):Tm.Vf a b q=none:=by unfold Tm.Vf;rw[h]
theorem L2 {a b:List Tm.Qu} {q:Tm.Qk} (h:Tm.Zj b q=none):Tm.Vf a b q=none:=by
 unfold Tm.Vf;rw[h]
 cases Tm.Zj a q<;>rfl
theorem Ca {a b r m:List Tm.Qu} {q:Tm.Qk} {t u:Tm.Qu} (h:Tm.Zj a q=some (t,r)) (h2:Tm.Zj b q=some (u,m)):Tm.Vf a b q=Tm.Zh (r++m++[Tm.Vi t u]):=by unfold Tm.Vf;rw[h,h2]
theorem Mc {L C:List Tm.Qu} (h:Tm.Zh L=some C) (hs:∀ t∈L,Yk t):∀ t∈C,Yk t:=fun t ht=>by obtain⟨-,h2,-⟩:=Tm.K7 h;obtain⟨v,hv,e⟩:=Tm.Gy h t ht;exact⟨U6 (h2 t ht),by rw[←e];exact(hs v hv).2⟩
theorem Ox (a b:List Tm.Qu) (va vb:Value) (F G:Nat→Prop) (q:Tm.Qk) (w:World) (ha:Zs w F va a) (hb:Zs w G vb b) (hsa:∀ t∈a,Yk t) (hsb:∀ t∈b,Yk t) (hla:a.length≤524000) (hlb:b.length≤524000):
 Calls prog 153 #[va,vb,.string ⟨q.toArray⟩] w (ResP a b q w):=by
 have k1:=No a va F q w ha hsa (by omega);have k2:=fun W (h:Below w.heap.size w W)=>No b vb G q W (hb.below h) hsb (by omega);obtain⟨A1,c1,e1,-,-⟩:=ha.shape;obtain⟨A2,c2,e2,-,-⟩:=hb.shape;subst e1 e2;obtain⟨N1,hN1⟩:∃ N,a.length=N:=⟨_,rfl⟩;obtain⟨N2,hN2⟩:∃ N,b.length=N:=⟨_,rfl⟩;rw[hN1] at k1 ⊢;rw[hN2] at k2 ⊢;have HL:=Kd6 hN1 hN2 hla hlb hsa hsb;have K2:=Kd k2;clear ha hb hN1 hN2 hla hlb k2 hsa hsb;go_enter func153,ntmps153;go_wp2_with fail;refine k1.mono ?_;rintro e w1 (⟨rfl,hn1,z1⟩|⟨M1,i1,hi1,A3,B3,d3,A4,n4,c4,rfl,hv1,hc1,hs1,hl1,y1⟩)
 ·have Z1:=Kd2 hn1 z1
  have k2:=K2.out (w1.alloc (.cells #[.string ⟨#[]⟩,.bool false,.slice none 0 0] 248)) (z1.alloc z1.size _);clear k1 hn1 z1;go_wp2_with fail;refine k2.mono ?_;rintro e w2 (⟨rfl,hn2,z2⟩|⟨M2,i2,hi2,A5,B5,d5,A6,n6,c6,rfl,hv2,hc2,hs2,hl2,y2⟩)
  ·have Z2:=Kd ((Z1.out.2.alloc Z1.out.2.size (.cells #[.string ⟨#[]⟩,.bool false,.slice none 0 0] 248)).trans (z2.mono (by have:=Z1.out.2.size;simp;omega)))
   clear k2 z2 hn2;go_wp2;go_ret2;exact⟨Z2.out.alloc Z2.out.size _,none,0,0,1,rfl,.inr (.inl rfl),fun h=>absurd h (by decide),fun _=>Sm Z1.out.1⟩
  ·have Z2:=Kd ((Z1.out.2.alloc Z1.out.2.size (.cells #[.string ⟨#[]⟩,.bool false,.slice none 0 0] 248)).trans (y2.below.mono (by have:=Z1.out.2.size;simp;omega)))
   clear k2 y2 hc2 hs2 hv2;generalize M2[i2].1.path=p2;generalize M2[i2].1.abs=x2;go_wp2;go_ret2;exact⟨Z2.out.alloc Z2.out.size _,none,0,0,1,rfl,.inr (.inl rfl),fun h=>absurd h (by decide),fun _=>Sm Z1.out.1⟩
 ·have hsm1:=Mc hc1 HL.out.2.2.2.2.1
  obtain⟨⟨p1,x1,s1⟩,hM1⟩:∃ t,M1[i1].1=t:=⟨_,rfl⟩;rw[hM1] at hs1 ⊢;dsimp only;obtain⟨W2,hW2⟩:∃ W2,w1.alloc (.cells #[.string ⟨p1.toArray⟩,.bool x1,.slice A4 n4 c4] 248)=W2:=⟨_,rfl⟩;have y2:=y1.alloc 248 #[.string ⟨p1.toArray⟩,.bool x1,.slice A4 n4 c4];rw[hW2] at y2;have k2:=K2.out W2 y2.below;have Y2:=Kd y2;have HM1:=Kd6 hM1 hv1 hc1 hs1 hl1 hsm1;clear k1 y1 y2 hM1 hv1 hc1 hs1 hl1 hsm1;go_wp2_with fail;refine k2.mono ?_;rintro e w3 (⟨rfl,hn2,z2⟩|⟨M2,i2,hi2,A5,B5,d5,A6,n6,c6,rfl,hv2,hc2,hs2,hl2,y3⟩)
  ·have Z2:=Kd2 hn2 (Y2.out.below.trans (z2.mono Y2.out.below.size))
   clear k2 hn2 z2 hW2;go_wp2;go_ret2;exact⟨Z2.out.2.alloc Z2.out.2.size _,none,0,0,1,rfl,.inr (.inl rfl),fun h=>absurd h (by decide),fun _=>L2 Z2.out.1⟩
  ·have hsm2:=Mc hc2 HL.out.2.2.2.2.2
   obtain⟨⟨p2,x2,s2⟩,hM2⟩:∃ t,M2[i2].1=t:=⟨_,rfl⟩;rw[hM2] at hs2 ⊢;dsimp only;obtain⟨r1,hr1⟩:∃ r,M1.length-1=r:=⟨_,rfl⟩;obtain⟨r2,hr2⟩:∃ r,M2.length-1=r:=⟨_,rfl⟩;have yA:=Y2.out.graft y3;rw[hr1,hr2] at yA;rw[hr1,hr2];obtain⟨W5,hW5⟩:∃ W5,w3.alloc (.cells #[.string ⟨p2.toArray⟩,.bool x2,.slice A6 n6 c6] 248)=W5:=⟨_,rfl⟩;have yB:=yA.alloc 248 #[.string ⟨p2.toArray⟩,.bool x2,.slice A6 n6 c6];rw[hW5] at yB;have y0:St w.heap.size w W5 (Ja 3 (.slice B3 r1 d3) r1 ((M1.eraseIdx i1).flatMap X3)::Ug A3 M1::Ug A5 M2::Qa w1.heap.size 248 #[.string ⟨p1.toArray⟩,.bool x1,.slice A4 n4 c4]::Qa w3.heap.size 248 #[.string ⟨p2.toArray⟩,.bool x2,.slice A6 n6 c6]::Qh 248 3 (.slice B5 r2 d5) r2 ((M2.eraseIdx i2).flatMap X3)::[]):=(yB.pk [4,5,2,3,0,1]).toQu;obtain⟨hM1,hv1,hc1,hs1,hl1,hsm1⟩:=HM1.out;have hE1:(M1.eraseIdx i1).length=r1 :=(by rw[List.length_eraseIdx_of_lt hi1,hr1]);have hE2:(M2.eraseIdx i2).length=r2 :=(by rw[List.length_eraseIdx_of_lt hi2,hr2]);have hF1:((M1.eraseIdx i1).flatMap X3).length=r1*3 :=(by rw[Hj,hE1]);have hF2:((M2.eraseIdx i2).flatMap X3).length=r2*3:=by rw[Hj,hE2]
   have hone:∀ {W:World} {Rs:List Q3} {A:Option Addr} {M:List Xn} {i:Nat},St w.heap.size w W (Ug A M::Rs)→∀ u∈(M.eraseIdx i).flatMap X3,u.oneCell'=true:=fun hW=>On fun m hm=>by obtain⟨A,n,c,e⟩:=(hW.trv.2 m (List.mem_of_mem_eraseIdx hm)).shape;rw[e];rfl
   have hone2:=hone (i:=i2) y0.tail.tail;have hl8:=HL.out;have hln1:M1.length≤524000 :=(by have:=Me hc1;rw[List.length_map] at this;omega);have hln2:M2.length≤524000 :=(by have:=Me hc2;rw[List.length_map] at this;omega);have q1:r1+r2≤maxLen :=(by unfold maxLen;omega);have q2:(r1+r2)*48≤140737488355328 :=(by omega);have q3:r1+r2+1≤maxLen :=(by unfold maxLen;omega);have q4:(r1+r2+1)*48≤140737488355328 :=(by omega);have hS:∀ W' v n xs (Rs:List Q3),St w.heap.size w W' (Ja 3 v n xs::Ug A3 M1::Ug A5 M2::Qa w1.heap.size 248 #[.string ⟨p1.toArray⟩,.bool x1,.slice A4 n4 c4]::Qa w3.heap.size 248 #[.string ⟨p2.toArray⟩,.bool x2,.slice A6 n6 c6]::Qh 248 3 (.slice B5 r2 d5) r2 ((M2.eraseIdx i2).flatMap X3)::Rs)→W'.cell? ⟨w1.heap.size,0,none⟩=some (.string ⟨p1.toArray⟩)∧W'.cell? ⟨w1.heap.size,1,none⟩=some (.bool x1)∧W'.cell? ⟨w1.heap.size,2,none⟩=some (.slice A4 n4 c4)∧W'.cell? ⟨w3.heap.size,0,none⟩=some (.string ⟨p2.toArray⟩)∧W'.cell? ⟨w3.heap.size,1,none⟩=some (.bool x2)∧W'.cell? ⟨w3.heap.size,2,none⟩=some (.slice A6 n6 c6):=fun W' v n xs Rs hW=>by obtain⟨g0,-,g1,-,g2,-⟩:=G4 hW.tail.tail.tail.blk;obtain⟨h0,-,h1,-,h2,-⟩:=G4 hW.tail.tail.tail.tail.blk;exact⟨g0,g1,g2,h0,h1,h2⟩
   have hset1:∀ {W:World} {Rs:List Q3},St w.heap.size w W (Ug A3 M1::Rs)→Qr W (fun k=>w.heap.size≤k) (.slice A4 n4 c4) s1:=fun hW=>by have:=hW.trv.2 M1[i1] (List.getElem_mem hi1);rw[hv1,hM1] at this;exact this
   have hset2:∀ {W:World} {Rs:List Q3},St w.heap.size w W (Ug A5 M2::Rs)→Qr W (fun k=>w.heap.size≤k) (.slice A6 n6 c6) s2:=fun hW=>by have:=hW.trv.2 M2[i2] (List.getElem_mem hi2);rw[hv2,hM2] at this;exact this
   have hz1:=(hsm1 _ (List.mem_map.2 ⟨M1[i1],List.getElem_mem hi1,hM1⟩)).1;have hz2:=(hsm2 _ (List.mem_map.2 ⟨M2[i2],List.getElem_mem hi2,hM2⟩)).1;have ke:∀ W v n xs,St w.heap.size w W (Ja 3 v n xs::Ug A3 M1::Ug A5 M2::Qa w1.heap.size 248 #[.string ⟨p1.toArray⟩,.bool x1,.slice A4 n4 c4]::Qa w3.heap.size 248 #[.string ⟨p2.toArray⟩,.bool x2,.slice A6 n6 c6]::Qh 248 3 (.slice B5 r2 d5) r2 ((M2.eraseIdx i2).flatMap X3)::[])→Calls prog 208 #[.agg #[.string ⟨p1.toArray⟩,.bool x1,.slice A4 n4 c4],.agg #[.string ⟨p2.toArray⟩,.bool x2,.slice A6 n6 c6]] W fun e w'=>∃ A8 n8 c8,e=.returned (.agg #[.string ⟨p1.toArray⟩,.bool (x1||x2),.slice A8 n8 c8])∧St w.heap.size w w' (Ja 3 v n xs::Ug A3 M1::Ug A5 M2::Qa w1.heap.size 248 #[.string ⟨p1.toArray⟩,.bool x1,.slice A4 n4 c4]::Qa w3.heap.size 248 #[.string ⟨p2.toArray⟩,.bool x2,.slice A6 n6 c6]::Qh 248 3 (.slice B5 r2 d5) r2 ((M2.eraseIdx i2).flatMap X3)::[Aw (.slice A8 n8 c8) (Tm.Yh s1 s2)]):=fun W v n xs hW=>by refine(either_spec p1 p2 x1 x2 s1 s2 _ _ _ _ W (hset1 hW.tail) (hset2 hW.tail.tail) hz1 hz2).mono ?_;rintro e w' ⟨v',rfl,z,hs'⟩;obtain⟨A8,n8,c8,rfl⟩:=hs'.shape;exact⟨A8,n8,c8,rfl,(hW.newSet z hs').rot⟩
   have hsz2:∀ t∈(M1.eraseIdx i1).map Prod.fst++(M2.eraseIdx i2).map Prod.fst++[Tm.Vi ⟨p1,x1,s1⟩ ⟨p2,x2,s2⟩],Yk t:=fun t ht=>by
    rcases List.mem_append.1 ht with ht|ht
    ·rcases List.mem_append.1 ht with ht|ht
     ·obtain⟨m,hm,rfl⟩:=List.mem_map.1 ht
      exact hsm1 _ (List.mem_map.2 ⟨m,List.mem_of_mem_eraseIdx hm,rfl⟩)
     ·obtain⟨m,hm,rfl⟩:=List.mem_map.1 ht
      exact hsm2 _ (List.mem_map.2 ⟨m,List.mem_of_mem_eraseIdx hm,rfl⟩)
    ·obtain rfl:=List.mem_singleton.1 ht
     exact⟨U6 (Tm.unionS_can _ _),(hsm1 _ (List.mem_map.2 ⟨M1[i1],List.getElem_mem hi1,hM1⟩)).2⟩
   have kn:∀ W A' c' A8 n8 c8 (Rs:List Q3),St w.heap.size w W (Ja 3 (.slice A' (r1+r2+1) c') (r1+r2+1) (((M1.eraseIdx i1).flatMap X3++(M2.eraseIdx i2).flatMap X3)++[.string ⟨p1.toArray⟩,.bool (x1||x2),.slice A8 n8 c8])::Ug A3 M1::Ug A5 M2::Qa w1.heap.size 248 #[.string ⟨p1.toArray⟩,.bool x1,.slice A4 n4 c4]::Qa w3.heap.size 248 #[.string ⟨p2.toArray⟩,.bool x2,.slice A6 n6 c6]::Qh 248 3 (.slice B5 r2 d5) r2 ((M2.eraseIdx i2).flatMap X3)::Aw (.slice A8 n8 c8) (Tm.Yh s1 s2)::Rs)→
    Calls prog 207 #[.slice A' (r1+r2+1) c'] W fun e w'=>St w.heap.size w w' (Ja 3 (.slice A' (r1+r2+1) c') (r1+r2+1) (((M1.eraseIdx i1).flatMap X3++(M2.eraseIdx i2).flatMap X3)++[.string ⟨p1.toArray⟩,.bool (x1||x2),.slice A8 n8 c8])::Ug A3 M1::Ug A5 M2::Qa w1.heap.size 248 #[.string ⟨p1.toArray⟩,.bool x1,.slice A4 n4 c4]::Qa w3.heap.size 248 #[.string ⟨p2.toArray⟩,.bool x2,.slice A6 n6 c6]::Qh 248 3 (.slice B5 r2 d5) r2 ((M2.eraseIdx i2).flatMap X3)::Aw (.slice A8 n8 c8) (Tm.Yh s1 s2)::Rs)∧∃ A n c,e=.returned (.tuple #[.slice A n c,.bool (Tm.Zh ((M1.eraseIdx i1).map Prod.fst++(M2.eraseIdx i2).map Prod.fst++[Tm.Vi ⟨p1,x1,s1⟩ ⟨p2,x2,s2⟩])).isSome])∧Zs w' (fun k=>w.heap.size≤k) (.slice A n c) ((Tm.Zh ((M1.eraseIdx i1).map Prod.fst++(M2.eraseIdx i2).map Prod.fst++[Tm.Vi ⟨p1,x1,s1⟩ ⟨p2,x2,s2⟩])).getD []):=fun W A' c' A8 n8 c8 Rs hW=>by
    obtain⟨A'',c'',e'',g1,g2⟩:=hW.qu_form;obtain⟨rfl,-,rfl⟩:=Value.slice.inj e'';have hflat:((M1.eraseIdx i1)++(M2.eraseIdx i2)++[((Tm.Vi ⟨p1,x1,s1⟩ ⟨p2,x2,s2⟩,.slice A8 n8 c8):Xn)]).flatMap X3=((M1.eraseIdx i1).flatMap X3++(M2.eraseIdx i2).flatMap X3)++[.string ⟨p1.toArray⟩,.bool (x1||x2),.slice A8 n8 c8] :=(by rw[List.flatMap_append,List.flatMap_append];rfl);have hlen:((M1.eraseIdx i1)++(M2.eraseIdx i2)++[((Tm.Vi ⟨p1,x1,s1⟩ ⟨p2,x2,s2⟩,.slice A8 n8 c8):Xn)]).length=r1+r2+1:=by rw[List.length_append,List.length_append,hE1,hE2];rfl
    have ht:Zs W (fun k=>w.heap.size≤k) (.slice A' (r1+r2+1) c') ((M1.eraseIdx i1).map Prod.fst++(M2.eraseIdx i2).map Prod.fst++[Tm.Vi ⟨p1,x1,s1⟩ ⟨p2,x2,s2⟩]):=by
     refine⟨A',c',(M1.eraseIdx i1)++(M2.eraseIdx i2)++[(Tm.Vi ⟨p1,x1,s1⟩ ⟨p2,x2,s2⟩,.slice A8 n8 c8)],by rw[List.map_append,List.map_append];rfl,by rw[hlen],by rw[hlen];exact g1,g2,?_,fun m hm=>?_⟩
     ·rw[hflat]
      exact hW.quRd (by rw[List.length_append,List.length_append,hF1,hF2];simp;omega)
     ·rcases List.mem_append.1 hm with hm|hm
      ·rcases List.mem_append.1 hm with hm|hm
       ·exact hW.tail.trv.2 m (List.mem_of_mem_eraseIdx hm)
       ·exact hW.tail.tail.trv.2 m (List.mem_of_mem_eraseIdx hm)
      ·obtain rfl:=List.mem_singleton.1 hm
       exact hW.tail.tail.tail.tail.tail.tail.setLo
    refine(Gd _ _ _ W ht hsz2 (by rw[List.length_append,List.length_append,List.length_map,List.length_map,hE1,hE2];simp;omega)).mono ?_;rintro e w' ⟨z,A,n,c,rfl,t⟩;exact⟨hW.under z,A,n,c,rfl,t.mono fun k hk=>Nat.le_trans hW.size hk⟩
   have hres:=Ca hs1 hs2;obtain⟨LL,hLL⟩:∃ LL,(M1.eraseIdx i1).map Prod.fst++(M2.eraseIdx i2).map Prod.fst++[Tm.Vi ⟨p1,x1,s1⟩ ⟨p2,x2,s2⟩]=LL:=⟨_,rfl⟩;simp only[hLL] at kn;rw[hLL] at hres;have HR:=Kd hres;have KN:=Kd kn;have HS:=Kd hS;have KE:=Kd ke;have Y0:=Kd y0;clear hLL hres hsz2 kn hS ke k2 y3 yA yB hW2 hl8;clear y0;have y:=Y0.out;go_wp2_with fail;clear hW5;refine wp_region_noPanic ?_;refine wp_region_held_drew (S:=(fun W'=>W'.cell? ⟨w1.heap.size,0,none⟩=some (.string ⟨p1.toArray⟩)∧W'.cell? ⟨w1.heap.size,1,none⟩=some (.bool x1)∧W'.cell? ⟨w1.heap.size,2,none⟩=some (.slice A4 n4 c4)∧W'.cell? ⟨w3.heap.size,0,none⟩=some (.string ⟨p2.toArray⟩)∧W'.cell? ⟨w3.heap.size,1,none⟩=some (.bool x2)∧W'.cell? ⟨w3.heap.size,2,none⟩=some (.slice A6 n6 c6))) (by kernel_rfl) ?_ (fun hH0=>?_)
   ·exact HS.out _ _ _ _ _ y.drew
   refine tk 0 37 hH0 ?_;refine tk 1 38 hH0 ?_;refine tk 3 40 hH0 ?_;refine tk 4 41 hH0 ?_;refine Zk [2] ?_;refine an 39 fun K hK=>?_
   (
    refine Ut 192 y.drew underlying192 De rfl ((y.drew.pk [5]).rowRd hF2) hF2 (by decide) hone2 q1 q2 _ _ (by rfl) (by rfl) (by rfl) (by rfl) ?_
    intro A9 c9 w9 y)
   refine hK.out _ _ ?_ (fun hH1=>?_)
   ·exact HS.out _ _ _ _ _ y
   clear hK K hH0
   try simp only[pu]
   refine Zk [5] ?_;refine an 42 fun K hK=>?_
   go_simp;(
    with_reducible refine(KE.out _ _ _ _ y).mono ?_
    rintro e w10 ⟨A8,n8,c8,rfl,y⟩);go_wp2_with fail
   refine hK.out _ _ ?_ (fun hH2=>?_)
   ·exact HS.out _ _ _ _ _ y
   clear hK K hH1
   try simp only[pu]
   refine Zk [6] ?_;refine an 43 fun K hK=>?_;go_simp;refine hK.out _ _ ?_ (fun hH3=>?_)
   ·exact HS.out _ _ _ _ _ ((y.alloc 248 #[.string ⟨p1.toArray⟩,.bool (x1||x2),.slice A8 n8 c8]).pk [1,2,3,4,5,6,7,0])
   clear hK K hH2
   try simp only[pu]
   refine Zk [7] ?_;refine an 44 fun K hK=>?_
   (
    refine Ut 192 ((y.alloc 248 #[.string ⟨p1.toArray⟩,.bool (x1||x2),.slice A8 n8 c8]).pk [1,2,3,4,5,6,7,0]) underlying192 De rfl (((y.alloc 248 #[.string ⟨p1.toArray⟩,.bool (x1||x2),.slice A8 n8 c8]).pk [1,2,3,4,5,6,7,0]).pk [7]).blkRd rfl (by decide) (by intro u hu;simp at hu;rcases hu with rfl|rfl|rfl<;>rfl) q3 q4 _ _ (by rfl) (by rfl) (by rfl) (by rfl) ?_
    intro A11 c11 w11 y)
   refine hK.out _ _ ?_ (fun hH4=>?_)
   ·exact HS.out _ _ _ _ _ y
   clear hK K hH3
   try simp only[pu]
   refine Zk [8] ?_;refine an 45 fun K hK=>?_
   go_simp;(
    with_reducible refine(KN.out _ _ _ _ _ _ _ y).mono ?_
    rintro e w12 ⟨y,A12,n12,c12,rfl,t12⟩);go_wp2_with fail
   refine hK.out _ _ ?_ (fun hH5=>?_)
   ·exact HS.out _ _ _ _ _ y
   clear hK K hH4
   try simp only[pu]
   refine tk 9 36 hH5 ?_;refine tk 10 46 hH5 ?_;refine tk 11 47 hH5 ?_;refine tk 12 14 hH5 ?_;refine tk 13 15 hH5 ?_;refine dn ?_ _
   all_goals(refine NoPanic.normal ?_)
   have Z:=Kd2 y.below t12;clear t12 y
   cases hcan:Tm.Zh LL with
   |none =>go_wp2;go_ret2;exact⟨Z.out.1,none,0,0,8,rfl,.inr (.inr rfl),fun h=>absurd h (by decide),fun _=>HR.out.trans hcan⟩
   |some l =>go_wp2;go_ret2;refine⟨Z.out.1,A12,n12,c12,0,rfl,.inl rfl,fun _=>⟨l,HR.out.trans hcan,?_⟩,fun h=>absurd rfl h⟩;have:=Z.out.2;rw[hcan] at this;exact this
def plS (s:Zy):Int:=1000*s.2.2.1+s.2.2.2
def okS (s:Zy):Prop:=Mq s.2.1 s.2.2.1 s.2.2.2=true
def Di (t:Tm.Qu) (S:List Zy):Bool:=match S.find? fun s=>s.1==t.path with
 |none=>t.abs
 |some s=>Tm.has t.set (plS s)
def sD (S:List Zy) (j:Nat):Zy:=S.getD j ([],0,0,0)
theorem Ov {S:List Zy} {j:Nat} (h:j<S.length):sD S j=S[j]:=by unfold sD;rw[List.getD_eq_getElem?_getD,List.getElem?_eq_getElem h,Option.getD_some]
theorem holds1_spec (p q:Tm.Qk) (a b c:Int) (g:Nat) (w:World) (hg:w.cell? ⟨g,0,none⟩=some (.string ⟨q.toArray⟩)):
 Calls prog 271 #[.agg #[.string ⟨p.toArray⟩,.int .i64 a,.int .i64 b,.int .i64 c],.pointer (some ⟨g,0,none⟩)] w fun e w'=>e=.returned (.bool (p==q))∧Below w.heap.size w w':=by
 have hl:=World.block_lt_of_cell? w _ hg;have hb:((⟨p.toArray⟩:ByteArray).toList==(⟨q.toArray⟩:ByteArray).toList)=(p==q):=by rw[Q7,Q7]
 go_enter func271,ntmps271;go_wp2;go_ret;exact⟨rfl,b1 w _⟩
theorem ent11_spec (p q:Tm.Qk) (a b c:Int) (g:Nat) (w:World) (hg:w.cell? ⟨g,0,none⟩=some (.string ⟨q.toArray⟩)):
 Calls prog 195 #[.agg #[.string ⟨p.toArray⟩,.int .i64 a,.int .i64 b,.int .i64 c],.pointer (some ⟨g,0,none⟩)] w fun e w'=>e=.returned (.bool (p==q))∧Below w.heap.size w w':=by
 have hl:=World.block_lt_of_cell? w _ hg;have hb:((⟨p.toArray⟩:ByteArray).toList==(⟨q.toArray⟩:ByteArray).toList)=(p==q):=by rw[Q7,Q7]
 go_enter func195,ntmps195;go_wp2;go_ret;exact⟨rfl,b1 w _⟩
theorem holds_spec (t:Tm.Qu) (S:List Zy) (v u:Value) (F G:Nat→Prop) (w:World) (h:Qr w F v t.set) (h2:Xz w G u S) (hS:∀ s∈S,okS s):
 Calls prog 241 #[.agg #[.string ⟨t.path.toArray⟩,.bool t.abs,v],u] w fun e w'=>e=.returned (.bool (Di t S))∧Below w.heap.size w w':=by
 obtain⟨A1,n1,c1,rfl⟩:=h.shape;obtain⟨W1,hW1⟩:∃ W1,w.alloc (.cells #[.string ⟨t.path.toArray⟩,.bool t.abs,.slice A1 n1 c1] 248)=W1:=⟨_,rfl⟩;have y1:=(St.nil w).alloc 248 #[.string ⟨t.path.toArray⟩,.bool t.abs,.slice A1 n1 c1];rw[hW1] at y1;obtain⟨f0,-,f1,-,f2,-⟩:=G4 y1.blk;obtain⟨A,c,rfl,hc1,hc2,hr⟩:=h2.below y1.below;have hset:=h.below y1.below
 have k:=Eu 271 #[.pointer (some ⟨w.heap.size,0,none⟩)] (enters_of func271 (by kernel_rfl) rfl) A S.length c (fun j=>.string ⟨(sD S j).1.toArray⟩) (fun j=>.int .i64 (sD S j).2.1) (fun j=>.int .i64 (sD S j).2.2.1) (fun j=>.int .i64 (sD S j).2.2.2) (fun j=>(sD S j).1==t.path) W1 (Nat.le_trans hc1 hc2)
  (fun j hj=>by
    obtain⟨b,off,e,hb,c0,c1,c2,c3⟩:=hr.sels j hj;rw[Ov hj];rw[List.getD_eq_getElem?_getD,List.getElem?_eq_getElem hj,Option.getD_some] at c0 c1 c2 c3
    exact⟨b,off,e,hb,c0,c1,c2,c3⟩)
  (fun j W hj hb=>holds1_spec _ _ _ _ _ _ W ((hb.cell y1.blk.lt).trans f0))
 have hcell:∀ i (hi:i<S.length),∃ b off,A=some ⟨b,off,none⟩∧b<W1.heap.size∧W1.cell? ⟨b,off+i*4+1,none⟩=some (.int .i64 S[i].2.1)∧W1.cell? ⟨b,off+i*4+2,none⟩=some (.int .i64 S[i].2.2.1)∧W1.cell? ⟨b,off+i*4+3,none⟩=some (.int .i64 S[i].2.2.2):=fun i hi=>by obtain⟨b,off,e,hb,c0,c1,c2,c3⟩:=hr.sels i hi;rw[List.getD_eq_getElem?_getD,List.getElem?_eq_getElem hi,Option.getD_some] at c1 c2 c3;exact⟨b,off,e,hb,c1,c2,c3⟩
 have hR:∀ j,IxP (fun j=>(sD S j).1==t.path) S.length j→(j = -1∧Di t S=t.abs)∨∃(i:Nat) (hi:i<S.length),j=(i:Int)∧Di t S=Tm.has t.set (plS S[i]):=fun j hj=>by
  rcases IxP.find (L:=S) (q:=fun s=>s.1==t.path) hj (fun j hj=>by rw[Ov hj]) with⟨h1,h2⟩|⟨i,hi,h1,h2,-⟩
  ·left
   unfold Di;rw[h2];exact⟨h1,rfl⟩
  ·right
   unfold Di;rw[h2];exact⟨i,hi,h1,rfl⟩
 obtain⟨N,hN⟩:∃ N,S.length=N:=⟨_,rfl⟩;have HC:=Kd4 hR hcell hN hS;have Y1:=Kd y1;have HSet:=Kd hset;have hNm:N≤9223372036854775807:=by rw[←hN];exact Nat.le_trans hc1 (Nat.le_trans hc2 (by decide))
 rw[hN] at k ⊢;clear hR hcell hN hS y1 hr hc1 hc2 h h2 hset;go_enter func241,ntmps241;go_wp2_with fail;refine k.mono ?_;rintro e w2 ⟨j,rfl,z2,hj⟩;have y2:=Y1.out.under z2;obtain⟨g0,-,g1,-,g2,-⟩:=G4 y2.blk;obtain⟨hR,hcell,hN,hS⟩:=HC.out;rcases hR j (by rw[hN];exact hj) with⟨rfl,hh⟩|⟨i,hi,rfl,hh⟩
 ·have HH:=Kd hh
  have Y2:=Kd y2.below;clear hR hcell hN hS hh hj z2 y2 k;go_wp2;go_ret;exact⟨by rw[HH.out];rfl,Y2.out⟩
 ·obtain⟨b,off,rfl,hb,c1',c2',c3'⟩:=hcell i hi
  have c1:=(z2.cell (p:=⟨b,off+i*4+1,none⟩) hb).trans c1';have c2:=(z2.cell (p:=⟨b,off+i*4+2,none⟩) hb).trans c2';have c3:=(z2.cell (p:=⟨b,off+i*4+3,none⟩) hb).trans c3';have hok:=hS S[i] (List.getElem_mem hi);have kp:=Z6 S[i].2.1 S[i].2.2.1 S[i].2.2.2 w2 hok;have kh:=fun W (hb:Below w2.heap.size w2 W)=>Ys t.set _ _ (plS S[i]) W ((HSet.out.below z2).below hb);have hpl:1000*S[i].2.2.1+S[i].2.2.2=plS S[i]:=rfl;rw[hpl] at kp;generalize plS S[i]=pl at kp kh hh hpl;generalize S[i].2.1=va at c1 c1' kp;generalize S[i].2.2.1=vb at c2 c2' kp;generalize S[i].2.2.2=vc at c3 c3' kp;have i0:¬((i:Int)<0):=by omega
  have i1:(0:Int)≤(i:Int):=by omega
  have i2:(i:Int)<(N:Int):=by omega
  have HH:=Kd hh;have Y2:=Kd y2;have KH:=Kd kh;clear hR hcell hN hS hh hj z2 y2 k c1' c2' c3' hok hpl kh hi;go_wp2_with fail;refine kp.mono ?_;rintro e w3 ⟨rfl,z3⟩;have y3:=Y2.out.under z3;obtain⟨h0,-,h1,-,h2,-⟩:=G4 y3.blk;have kh:=KH.out w3 z3;have Y3:=Kd y3;clear kp y3 z3;go_wp2_with fail;refine kh.mono ?_;rintro e w4 ⟨rfl,z4⟩;have Y4:=Kd (Y3.out.under z4).below;clear kh z4;go_wp2;go_ret;exact⟨by rw[HH.out];rfl,Y4.out⟩
def Rz (L:List Tm.Qu) (S:List Zy):Bool:=L.all fun t=>Di t S
theorem Mx (L:List Tm.Qu) (S:List Zy) (v u:Value) (F G:Nat→Prop) (w:World) (h:Zs w F v L) (h2:Xz w G u S) (hS:∀ s∈S,okS s):
 Calls prog 193 #[v,u] w fun e w'=>e=.returned (.bool (Rz L S))∧Below w.heap.size w w':=by
 obtain⟨A2,n2,c2,rfl⟩:∃ A n c,u=.slice A n c:=by obtain⟨A,c,e,-⟩:=h2;exact⟨A,_,c,e⟩
 obtain⟨A,c,M,rfl,rfl,hc1,hc2,hr,hm⟩:=h;obtain⟨N,hN⟩:∃ N,M.length=N:=⟨_,rfl⟩;obtain⟨res,hres⟩:∃ res,Rz (M.map Prod.fst) S=res:=⟨_,rfl⟩;rw[hres,hN];have hNm:N≤9223372036854775807:=by rw[←hN];exact Nat.le_trans hc1 (Nat.le_trans hc2 (by decide))
 have HM:=Kd5 hN (fun j hj=>Us hr (j:=j) hj) hm h2 hS;have HR:=Kd hres;clear hN hr hm h2 hS hres hc1 hc2;go_enter func193,ntmps193;go_wp2
 go_loopw [8] (fun i wr=>∃ k:Nat,k≤N∧i=.int .i64 k∧Hid (Below w.heap.size w wr)∧Hid (res=Rz ((M.map Prod.fst).drop k) S)) (fun i _=>N-(intOf i).toNat)
 case atStart=>exact⟨0,Nat.zero_le _,rfl,Kd (Below.refl _ _),Kd HR.out.symm⟩
 case round=>
  obtain⟨k,hk,rfl,hb,hp⟩:=hrel
  by_cases hlt:k<N
  ·obtain⟨hN,hcs,hm,h2,hS⟩:=HM.out
   have hkM:k<M.length :=(by omega);obtain⟨b,off,rfl,hbl,c0,c1,c2'⟩:=hcs k hkM;rw[←hb.out.cell (p:=⟨b,off+k*3,none⟩) hbl] at c0;rw[←hb.out.cell (p:=⟨b,off+k*3+1,none⟩) hbl] at c1;rw[←hb.out.cell (p:=⟨b,off+k*3+2,none⟩) hbl] at c2';have hset:=(hm M[k] (List.getElem_mem hkM)).below hb.out;have hp:=hp.out;unfold Rz at hp;rw[List.drop_eq_getElem_cons (by rw[List.length_map];exact hkM),List.getElem_map,List.all_cons] at hp;generalize M[k]=x at c0 c1 c2' hset hp;obtain⟨t,vt⟩:=x;dsimp only at c0 c1 c2' hset hp;obtain⟨At,nt,ct,rfl⟩:=hset.shape;have kh:=holds_spec t S _ _ _ _ wr hset (h2.below hb.out) hS;generalize Di t S=hv at kh hp;have i0:(0:Int)≤(k:Int):=Int.natCast_nonneg _;have i1:(k:Int)<(N:Int):=Int.ofNat_lt.2 hlt;have HP:=Kd3 hp hlt hb.out;clear hN hcs hm h2 hS hset hp hb hkM;go_wp2_with fail;refine kh.mono ?_;rintro e w3 ⟨rfl,z3⟩;have B3:=Kd (HP.out.2.2.trans (z3.mono HP.out.2.2.size));clear kh z3
   cases hv with
   | true=>
     go_wp2
     go_roundw
     case rel=>exact⟨k+1,Nat.succ_le_of_lt HP.out.2.1,by go_num,B3,Kd (by rw[HP.out.1];rfl)⟩
     case measure=>have:=HP.out.2.1;simp[intOf];omega
   | false=>
     obtain rfl:res=false:=by rw[HP.out.1];rfl
     go_wp2;go_ret;exact⟨rfl,B3.out⟩
  ·obtain rfl:k=N:=Nat.le_antisymm hk (Nat.le_of_not_lt hlt)
   have hge:decide ((k:Int)<(k:Int))=false :=(by simp);obtain rfl:res=true :=(by rw[hp.out,List.drop_eq_nil_of_le (by rw[List.length_map,HM.out.1];exact Nat.le_refl _)];rfl);go_wp2;go_ret;exact⟨rfl,hb.out⟩
def N6 (S:List Zy) (p:Tm.Qk):Bool:=S.any fun s=>s.1==p
def entS (L:List Tm.Qu) (S:List Zy):Bool:=Rz L S&&L.all fun t=>N6 S t.path
theorem ent1_spec (t:Tm.Qu) (S:List Zy) (A1 A:Option Addr) (n1 c1 n c g:Nat) (G:Nat→Prop) (w:World) (hg:w.cell? ⟨g,0,none⟩=some (.slice A n c)) (h2:Xz w G (.slice A n c) S):
 Calls prog 194 #[.agg #[.string ⟨t.path.toArray⟩,.bool t.abs,.slice A1 n1 c1],.pointer (some ⟨g,0,none⟩)] w fun e w'=>e=.returned (.bool (!N6 S t.path))∧Below w.heap.size w w':=by
 have hl:=World.block_lt_of_cell? w _ hg;obtain⟨W1,hW1⟩:∃ W1,w.alloc (.cells #[.string ⟨t.path.toArray⟩,.bool t.abs,.slice A1 n1 c1] 248)=W1:=⟨_,rfl⟩;have y1:=(St.nil w).alloc 248 #[.string ⟨t.path.toArray⟩,.bool t.abs,.slice A1 n1 c1];rw[hW1] at y1;obtain⟨f0,-,f1,-,f2,-⟩:=G4 y1.blk;have hg1:=(y1.below.cell hl).trans hg;obtain⟨A',c',ev,hc1,hc2,hr⟩:=h2.below y1.below;obtain⟨rfl,rfl,rfl⟩:=Value.slice.inj ev
 have k:=Oe 195 #[.pointer (some ⟨w.heap.size,0,none⟩)] (enters_of func195 (by kernel_rfl) rfl) A S.length c (fun j=>.string ⟨(sD S j).1.toArray⟩) (fun j=>.int .i64 (sD S j).2.1) (fun j=>.int .i64 (sD S j).2.2.1) (fun j=>.int .i64 (sD S j).2.2.2) (fun j=>(sD S j).1==t.path) W1 (Nat.le_trans hc1 hc2)
  (fun j hj=>by
    obtain⟨b,off,e,hb,c0,c1,c2,c3⟩:=hr.sels j hj;rw[Ov hj];rw[List.getD_eq_getElem?_getD,List.getElem?_eq_getElem hj,Option.getD_some] at c0 c1 c2 c3
    exact⟨b,off,e,hb,c0,c1,c2,c3⟩)
  (fun j W hj hb=>ent11_spec _ _ _ _ _ _ W ((hb.cell y1.blk.lt).trans f0))
 have hR:∀ b,Hh (fun j=>(sD S j).1==t.path) S.length b→b=N6 S t.path:=fun b hb=>hb.list (L:=S) (q:=fun s=>s.1==t.path) (fun j hj=>by rw[Ov hj]);obtain⟨N,hN⟩:∃ N,S.length=N:=⟨_,rfl⟩;rw[hN] at k hg1 hR;have HR:=Kd hR;have Y1:=Kd y1.below;clear hR hN y1 hr hc1 hc2 h2 ev hg;go_enter func194,ntmps194;go_wp2_with fail;refine k.mono ?_;rintro e w2 ⟨b,rfl,z2,hb⟩;obtain rfl:=HR.out b hb;have Z2:=Kd (Y1.out.trans (z2.mono Y1.out.size));clear k z2 hb;go_wp2;go_ret;exact⟨rfl,Z2.out⟩
theorem Lc (L:List Tm.Qu) (S:List Zy) (v u:Value) (F G:Nat→Prop) (w:World) (h:Zs w F v L) (h2:Xz w G u S) (hS:∀ s∈S,okS s):
 Calls prog 134 #[v,u] w fun e w'=>e=.returned (.bool (entS L S))∧Below w.heap.size w w':=by
 obtain⟨A2,n2,c2,rfl⟩:∃ A n c,u=.slice A n c:=by obtain⟨A,c,e,-⟩:=h2;exact⟨A,_,c,e⟩
 obtain⟨A1,c1,e1,-,-⟩:=h.shape;subst e1;obtain⟨W1,hW1⟩:∃ W1,w.alloc (.cells #[.slice A2 n2 c2] 30)=W1:=⟨_,rfl⟩;have y1:=(St.nil w).alloc 30 #[.slice A2 n2 c2];rw[hW1] at y1;have f0:=y1.blk.cell 0;have kv:=Mx L S _ _ _ _ W1 (h.below y1.below) (h2.below y1.below) hS
 have kc:∀ W,Below W1.heap.size W1 W→Calls prog 150 #[.slice A1 L.length c1,.func (.func 194) #[] #[.pointer (some ⟨w.heap.size,0,none⟩)]] W fun e w'=>e=.returned (.bool (!L.all fun t=>N6 S t.path))∧Below W1.heap.size W1 w':=fun W hW=>by
  have hb1:=y1.below.trans (hW.mono y1.below.size);obtain⟨A,c,M,rfl,ev,hc1,hc2,hr,hm⟩:=h.below hb1;obtain⟨rfl,-,rfl⟩:=Value.slice.inj ev
  have k:=Od 194 #[.pointer (some ⟨w.heap.size,0,none⟩)] (enters_of func194 (by kernel_rfl) rfl) A1 M.length c1 (fun j=>.string ⟨(tD M j).1.path.toArray⟩) (fun j=>.bool (tD M j).1.abs) (fun j=>(tD M j).2) (fun j=>!N6 S (tD M j).1.path) W (Nat.le_trans hc1 hc2)
   (fun j hj=>by
     obtain⟨b,off,e,hb,c0,c1,c2⟩:=Us hr hj;rw[Kh hj]
     exact⟨b,off,e,hb,c0,c1,c2⟩)
   (fun j W' hj hb=>by
     rw[Kh hj];obtain⟨A',n',c',e⟩:=(hm M[j] (List.getElem_mem hj)).shape;rw[e]
     exact ent1_spec M[j].1 S A' A2 n' c' n2 c2 w.heap.size G W' ((hb.cell (Nat.lt_of_lt_of_le y1.blk.lt hW.size)).trans ((hW.cell y1.blk.lt).trans f0)) (h2.below (hb1.trans (hb.mono hb1.size))))
  rw[List.length_map];refine k.mono ?_;rintro e w' ⟨b,rfl,z,hb⟩;have:=hb.list (L:=M) (q:=fun m=>!N6 S m.1.path) (fun j hj=>by rw[Kh hj]);refine⟨?_,hW.trans (z.mono hW.size)⟩;rw[this,List.all_map,List.not_all_eq_any_not];rfl
 have Y1:=Kd y1;have KC:=Kd kc;obtain⟨N,hN⟩:∃ N,L.length=N:=⟨_,rfl⟩;rw[hN] at KC kv ⊢;unfold entS;generalize Rz L S=b1 at kv ⊢;generalize (L.all fun t=>N6 S t.path)=b2 at KC ⊢;clear kc y1 h h2 hS hN
 cases b1 with
 |false =>go_enter func134,ntmps134;go_wp2_with fail;refine kv.mono ?_;rintro e w2 ⟨rfl,z2⟩;have Y2:=Kd (Y1.out.under z2).below;clear kv z2;go_wp2;go_ret;exact⟨rfl,Y2.out⟩
 |true =>go_enter func134,ntmps134;go_wp2_with fail;refine kv.mono ?_;rintro e w2 ⟨rfl,z2⟩;have kc:=KC.out w2 z2;clear kv z2;go_wp2_with fail;refine kc.mono ?_;rintro e w3 ⟨rfl,z3⟩;have Y3:=Kd (Y1.out.under z3).below;clear kc z3;go_wp2;go_ret;exact⟨by simp,Y3.out⟩
theorem laidOut:laidOutB prog=true:=by kernel_rfl
theorem wideInf:(match prog.underlying 152 with|some (.array _ _)|some (.struct _)=>true|_=>false)=true:=by kernel_rfl
theorem wideSel:(match prog.underlying 38 with|some (.array _ _)|some (.struct _)=>true|_=>false)=true:=by kernel_rfl
theorem rowInf:(152:TypeId)<prog.types.size:=of_decide_eq_true (by kernel_rfl)
theorem rowSel:(38:TypeId)<prog.types.size:=of_decide_eq_true (by kernel_rfl)
theorem ktInf:prog.keyTypeAt 2 152=true:=by kernel_rfl
theorem ktSel:prog.keyTypeAt 3 38=true:=by kernel_rfl
theorem keyInf:Maps.Keyed prog 152:=Maps.Keyed.of_law (deep_law_laid laidOut (m:=2) (by decide) rowInf ktInf wideInf)
theorem Ia:Maps.Keyed prog 38:=Maps.Keyed.of_law (deep_law_laid laidOut (m:=3) (by decide) rowSel ktSel wideSel)
def Xj (i:Tm.D7):List Value:=[.int .i64 (i.1:Int),.string ⟨i.2.1.toArray⟩,.int .i64 i.2.2.1,.int .i64 (i.2.2.2.1:Int),.int .i64 (i.2.2.2.2.1:Int),.int .i64 (i.2.2.2.2.2:Int)]
def infA (i:Tm.D7):Value:=.agg (Xj i).toArray
def Vv (i:Tm.D7):Prop:=i.1≤3∧i.2.1.length≤4294967000∧(0≤i.2.2.1∧i.2.2.1<1000000)∧i.2.2.2.1≤4294967000∧i.2.2.2.2.1≤4294967000∧i.2.2.2.2.2≤4294967000
theorem Wf {P:Program} {t:TypeId} {q:IntKind} (h:P.underlying t=some (.int q)) (d:Nat) (n:Int) (hw:(Lit.int q n).wf=true):P.keyLits (d+1) t [.int q n]=some [.int q n]:=by simp[Program.keyLits,h,hw]
theorem Ny {P:Program} {t:TypeId} (h:P.underlying t=some .string) (d:Nat) (s:ByteArray) (hw:s.size≤maxLen):P.keyLits (d+1) t [.string s]=some [.string s.data.toList]:=by simp[Program.keyLits,h,hw]
theorem keyStruct {P:Program} {k:TypeId} {fs:Array Field} (hk:P.underlying k=some (.struct fs)) (hkt:P.keyType k=true) (hd:2≤P.types.size) (cs:List Value) (hcl:(Value.agg cs.toArray).cells.toList=cs) (hc:cs.length=P.cellsOf k) (hn:fs.toList.all (·.name != "_")=true) (ls:List (List Lit))
 (h:∀ d,fs.toList.mapM (fun f=>P.keyLits (d+1) f.type ((cs.drop f.offset).take (P.cellsOf f.type)))=some ls):keyOf P k (.agg cs.toArray)=some (.string (keyBytes ls.flatten)):=by
 obtain⟨d,hd⟩:∃ d,P.types.size=d+1:=⟨P.types.size-1,by omega⟩;obtain⟨e,he⟩:∃ e,d=e+1:=⟨d-1,by omega⟩;subst he;have hn':fs.all (·.name != "_")=true:=by rw[←Array.all_toList];exact hn
 have hl:P.keyLits (P.types.size+1) k cs=some ls.flatten:=by rw[hd];unfold Program.keyLits;rw[hk];dsimp only;rw[if_pos ⟨hc,hn'⟩,h (e+1)];rfl
 unfold keyOf;rw[hk];dsimp only;have hf:(Value.agg cs.toArray).formed P k=true:=by unfold Value.formed;rw[hk];simp[hc]
 rw[hkt,hf,hcl,hl];rfl
theorem fields6 {l:List Field} {a:List (String×TypeId×Nat)} (ha:a.length=6) (h:l.map (fun f=>(f.name,f.type,f.offset))=a):∃ f0 f1 f2 f3 f4 f5:Field,l=[f0,f1,f2,f3,f4,f5]:=by
 have hl:l.length=6:=by rw[←ha,←h,List.length_map]
 match l,hl with
 |[f0,f1,f2,f3,f4,f5],_=>exact⟨f0,f1,f2,f3,f4,f5,rfl⟩
theorem undInf:prog.underlying 152=some (.struct (prog.fieldsOf 152)):=by kernel_rfl
theorem fldInf:(prog.fieldsOf 152).toList.map (fun f=>(f.name,f.type,f.offset))=[("Kind",3,0),("Path",9,1),("Place",3,2),("Number",3,3),("Left",3,4),("Right",3,5)]:=by kernel_rfl
theorem ktInfAll:prog.keyType 152=true:=by kernel_rfl
theorem ktSelAll:prog.keyType 38=true:=by kernel_rfl
theorem cellsInf:prog.cellsOf 152=6:=by kernel_rfl
theorem cellsInt:prog.cellsOf 3=1:=by kernel_rfl
theorem cellsStr:prog.cellsOf 9=1:=by kernel_rfl
theorem size2:2≤prog.types.size:=Nat.le_trans (by decide:2≤(152:Nat)) (Nat.le_of_lt rowInf)
theorem Nk {x:Int} (h : -9223372036854775808≤x∧x≤9223372036854775807):(Lit.int .i64 x).wf=true:=by exact WalkArith.wf_i64 (by omega)
theorem infKey (i:Tm.D7) (h:Vv i):∃ l,keyOf prog 152 (infA i)=some l:=by
 obtain⟨k,p,a,n,l,r⟩:=i;obtain⟨h1,h2,h3,h4,h5,h6⟩:=h;dsimp only at h1 h2 h3 h4 h5 h6;have w1:=Nk (x:=(k:Int)) (by omega);have w2:=Nk (x:=a) (by omega);have w3:=Nk (x:=(n:Int)) (by omega);have w4:=Nk (x:=(l:Int)) (by omega);have w5:=Nk (x:=(r:Int)) (by omega);have hs:(⟨p.toArray⟩:ByteArray).size≤maxLen:=by rw[Zf];unfold maxLen;omega
 obtain⟨f0,f1,f2,f3,f4,f5,hf⟩:=fields6 rfl fldInf;have hm:=fldInf;rw[hf] at hm;simp only[List.map_cons,List.map_nil,List.cons.injEq,Prod.mk.injEq,and_true] at hm;obtain⟨⟨a0,b0,c0⟩,⟨a1,b1,c1⟩,⟨a2,b2,c2⟩,⟨a3,b3,c3⟩,⟨a4,b4,c4⟩,a5,b5,c5⟩:=hm;refine⟨_,keyStruct undInf ktInfAll size2 (Xj (k,p,a,n,l,r)) rfl (by rw[cellsInf];rfl) ?_ [[.int .i64 (k:Int)],[.string p],[.int .i64 a],[.int .i64 (n:Int)],[.int .i64 (l:Int)],[.int .i64 (r:Int)]] (fun d=>?_)⟩
 ·rw[hf]
  simp[a0,a1,a2,a3,a4,a5]
 ·rw[hf]
  have u0:=Wf underlying3 d (k:Int) w1;have u1:=Ny underlying9 d _ hs;have u2:=Wf underlying3 d a w2;have u3:=Wf underlying3 d (n:Int) w3;have u4:=Wf underlying3 d (l:Int) w4;have u5:=Wf underlying3 d (r:Int) w5;simp[List.mapM_cons,b0,b1,b2,b3,b4,b5,c0,c1,c2,c3,c4,c5,cellsInt,cellsStr,Xj,u0,u1,u2,u3,u4,u5]
noncomputable def Cx (i:Tm.D7):Lit:=(keyOf prog 152 (infA i)).getD (.bool false)
theorem Ib {i:Tm.D7} (h:Vv i):keyOf prog 152 (infA i)=some (Cx i):=by obtain⟨l,hl⟩:=infKey i h;unfold Cx;rw[hl];rfl
theorem str_inj {p q:Tm.Qk} (h:(Value.string ⟨p.toArray⟩)=.string ⟨q.toArray⟩):p=q:=by injection h with h;injection h with h;have:=congrArg Array.toList h;simpa using this
theorem infA_inj {i j:Tm.D7} (h:infA i=infA j):i=j:=by obtain⟨a,b,c,d,e,f⟩:=i;obtain⟨a',b',c',d',e',f'⟩:=j;unfold infA at h;injection h with h;have h:=congrArg Array.toList h;simp only[Xj,List.cons.injEq,and_true] at h;obtain⟨h1,h2,h3,h4,h5,h6⟩:=h;have h2:=str_inj h2;have h1:=(Value.int.inj h1).2;have h3:=(Value.int.inj h3).2;have h4:=(Value.int.inj h4).2;have h5:=(Value.int.inj h5).2;have h6:=(Value.int.inj h6).2;rw[h2,h3,show a=a' by omega,show d=d' by omega,show e=e' by omega,show f=f' by omega]
theorem kInf_inj {i j:Tm.D7} (hi:Vv i) (hj:Vv j) (h:Cx i=Cx j):i=j:=
 infA_inj (keyInf.inj (Ib hi) (by rw[h];exact Ib hj))
def Bi (M:Lit→Option Value) (infs:List Tm.D7):Prop:=∀ i,Vv i→M (Cx i)=if i∈infs then some (.int .i64 (infs.idxOf i:Int)) else none
theorem Bi.nil:Bi (fun _=>none) []:=fun i _=>by simp
theorem Bi.put {M:Lit→Option Value} {infs:List Tm.D7} (h:Bi M infs) {i:Tm.D7} (hi:Vv i) (hn:i∉infs):Bi (Jq M (Cx i) (.int .i64 (infs.length:Int))) (infs++[i]):=fun j hj=>by
 by_cases hji:j=i
 ·subst hji
  rw[Zd,if_pos (List.mem_append.2 (.inr (List.mem_singleton.2 rfl))),List.idxOf_append,if_neg hn];simp
 ·rw[Qz (fun e=>hji (kInf_inj hj hi e)),h j hj]
  by_cases hm:j∈infs
  ·rw[if_pos hm,if_pos (List.mem_append.2 (.inl hm)),List.idxOf_append,if_pos hm]
  ·rw[if_neg hm,if_neg (fun e=>by
    rcases List.mem_append.1 e with e|e
    ·exact hm e
    ·exact hji (List.mem_singleton.1 e))]
def Ec (v:Value) (L:List Tm.Qu):Q3 where
 P w F:=Zs w F v L∧∀ k,F k→k<w.heap.size
 lt h:=h.2
 mod h hm hG:=⟨h.1.keep (Qm.of_mod hm hG),fun k hk=>Nat.lt_of_lt_of_le (h.2 k hk) hm.size⟩
theorem St.newTrm {lo:Nat} {w0 w w':World} {Rs:List Q3} {v:Value} {L:List Tm.Qu} (h:St lo w0 w Rs) (hb:Below w.heap.size w w') (hs:Zs w' (fun k=>w.heap.size≤k) v L):St lo w0 w' (Ec v L::Rs):=
 h.new (F:=fun k=>w.heap.size≤k∧k<w'.heap.size) hb ⟨hs.ltR,fun k hk=>hk.2⟩ (fun k hk=>hk.1)
def DersF (w:World) (F:Nat→Prop) (vs:List Value) (D:List (List Tm.Qu)):Prop:=vs.length=D.length∧∀(i:Nat) (v:Value) (l:List Tm.Qu),vs[i]?=some v→D[i]?=some l→Zs w F v l
theorem DersF.keep {w w':World} {F:Nat→Prop} {vs:List Value} {D:List (List Tm.Qu)} (h:DersF w F vs D) (hk:Qm F w w'):DersF w' F vs D:=⟨h.1,fun i v l h1 h2=>(h.2 i v l h1 h2).keep hk⟩
def Yy (vs:List Value) (D:List (List Tm.Qu)):Q3 where
 P w F:=DersF w F vs D∧∀ k,F k→k<w.heap.size
 lt h:=h.2
 mod h hm hG:=⟨h.1.keep (Qm.of_mod hm hG),fun k hk=>Nat.lt_of_lt_of_le (h.2 k hk) hm.size⟩
theorem St.ders {lo:Nat} {w0 w:World} {Rs:List Q3} {vs:List Value} {D:List (List Tm.Qu)} (h:St lo w0 w (Yy vs D::Rs)):DersF w (fun k=>lo≤k) vs D:=by obtain⟨F,h1,h2,_⟩:=h.open;exact⟨h1.1.1,fun i v l e1 e2=>(h1.1.2 i v l e1 e2).mono h2⟩
theorem St.addDer {lo:Nat} {w0 w:World} {Rs:List Q3} {v:Value} {l:List Tm.Qu} {vs:List Value} {D:List (List Tm.Qu)} (h:St lo w0 w (Ec v l::Yy vs D::Rs)):St lo w0 w (Yy (vs++[v]) (D++[l])::Rs):=h.join fun F G hF hG=>by
 refine⟨⟨by rw[List.length_append,List.length_append,hG.1.1];rfl,fun i u m h1 h2=>?_⟩,fun k hk=>?_⟩
 ·by_cases hi:i<vs.length
  ·rw[List.getElem?_append_left hi] at h1
   rw[List.getElem?_append_left (by rw[←hG.1.1];exact hi)] at h2;exact(hG.1.2 i u m h1 h2).mono fun k hk=>.inr hk
  ·have hle:vs.length≤i:=Nat.le_of_not_lt hi
   rw[List.getElem?_append_right hle] at h1;rw[List.getElem?_append_right (by rw[←hG.1.1];exact hle),←hG.1.1] at h2;have h0:i-vs.length=0 :=(by have:=(List.getElem?_eq_some_iff.1 h1).1;simp at this;omega);rw[h0] at h1 h2;obtain rfl:=Option.some.inj h1;obtain rfl:=Option.some.inj h2;exact hF.1.mono fun k hk=>.inl hk
 ·rcases hk with hk|hk
  ·exact hF.2 k hk
  ·exact hG.2 k hk
structure Kc where
 roots:Value
 cm:Value
 am:Value
 km:Nat
 iA:Option Addr
 iC:Nat
 dA:Option Addr
 dC:Nat
 dvs:List Value
 dec:Value
 cho:Value
 skp:Value
def Q5 (V:Kc) (S:Tm.Qv):Array Value:=#[V.roots,V.cm,V.am,.slice V.iA S.infs.length V.iC,.slice V.dA S.infs.length V.dC,.map (some V.km),.bool S.full,V.dec,V.cho,V.skp]
def Z5 (g:Nat) (V:Kc) (M:Lit→Option Value) (S:Tm.Qv):List Q3:=
 [Qa g 121 (Q5 V S),Zw 152 V.km S.infs.length M,Qh 152 6 (.slice V.iA S.infs.length V.iC) S.infs.length (S.infs.flatMap Xj),Qh 192 1 (.slice V.dA S.infs.length V.dC) S.infs.length V.dvs,Yy V.dvs S.der]
structure Kc.Same (V V':Kc):Prop where
 roots:V'.roots=V.roots
 cm:V'.cm=V.cm
 am:V'.am=V.am
 dec:V'.dec=V.dec
 cho:V'.cho=V.cho
 skp:V'.skp=V.skp
theorem Kc.Same.refl (V:Kc):V.Same V:=⟨rfl,rfl,rfl,rfl,rfl,rfl⟩
theorem Kc.Same.trans {U V W:Kc} (h:U.Same V) (k:V.Same W):U.Same W:=⟨k.roots.trans h.roots,k.cm.trans h.cm,k.am.trans h.am,k.dec.trans h.dec,k.cho.trans h.cho,k.skp.trans h.skp⟩
structure Gg (M:Lit→Option Value) (S:Tm.Qv):Prop where
 known:Bi M S.infs
 ok:∀ i∈S.infs,Vv i
 len:S.der.length=S.infs.length
 small:S.infs.length≤65536
theorem info_inf:(prog.info? 152).map (fun i=>(i.zero,i.size,i.bytes))=some (some (.agg #[.int .i64 0,.string ⟨#[]⟩,.int .i64 0,.int .i64 0,.int .i64 0,.int .i64 0]),6,56):=by kernel_rfl
theorem C5:(prog.info? 192).map (fun i=>(i.zero,i.size,i.bytes))=some (some (.slice none 0 0),1,24):=by kernel_rfl
theorem bk6 {w:World} {g:Nat} {t:TypeId} {cs:Array Value} (h:Uc w g t cs):w.cell? ⟨g,0,none⟩=cs[0]?∧w.cell? ⟨g,1,none⟩=cs[1]?∧w.cell? ⟨g,2,none⟩=cs[2]?∧w.cell? ⟨g,3,none⟩=cs[3]?∧w.cell? ⟨g,4,none⟩=cs[4]?∧w.cell? ⟨g,5,none⟩=cs[5]?:=⟨h.cell 0,h.cell 1,h.cell 2,h.cell 3,h.cell 4,h.cell 5⟩
def AddP (lo:Nat) (w0:World) (g:Nat) (V:Kc) (X:Q3) (r:Nat×Tm.Qv) (e:Ending) (w':World):Prop:=
 ∃ V' M',V.Same V'∧Gg M' r.2∧e=.returned (.int .i64 (r.1:Int))∧St lo w0 w' (Z5 g V' M' r.2++[X])
theorem Dz {lo:Nat} {w0 w:World} {X:Q3} (i:Tm.D7) (l:List Tm.Qu) (Al:Option Addr) (nl cl g:Nat) (V:Kc) (M:Lit→Option Value) (S:Tm.Qv) (h:St lo w0 w (Ec (.slice Al nl cl) l::(Z5 g V M S++[X]))) (hs:Gg M S) (hi:Vv i):
 Calls prog 147 #[.pointer (some ⟨g,0,none⟩),infA i,.slice Al nl cl] w (AddP lo w0 g V X (Tm.add S i l)):=by
 have hkey:=Ib hi;have hlk:=hs.known i hi;have hput:=fun hn=>hs.known.put hi hn;obtain⟨k,p,a,n,le,ri⟩:=i
 change Calls prog 147 #[.pointer (some ⟨g,0,none⟩),.agg #[.int .i64 (k:Int),.string ⟨p.toArray⟩,.int .i64 a,.int .i64 (n:Int),.int .i64 (le:Int),.int .i64 (ri:Int)],.slice Al nl cl] w _
 obtain⟨W1,hW1⟩:∃ W1,w.alloc (.cells #[.int .i64 (k:Int),.string ⟨p.toArray⟩,.int .i64 a,.int .i64 (n:Int),.int .i64 (le:Int),.int .i64 (ri:Int)] 152)=W1:=⟨_,rfl⟩;have y1:=h.alloc 152 #[.int .i64 (k:Int),.string ⟨p.toArray⟩,.int .i64 a,.int .i64 (n:Int),.int .i64 (le:Int),.int .i64 (ri:Int)];rw[hW1] at y1;obtain⟨N,hN⟩:∃ N,S.infs.length=N:=⟨_,rfl⟩;obtain⟨roV,cmV,amV,km,iA,iC,dA,dC,dvs,dec,cho,skp⟩:=V;unfold Z5 Q5 at y1;dsimp only at y1;rw[hN] at y1;have hsm:=hs.small;rw[hN] at hsm;have y1:St lo w0 W1 [Qa w.heap.size 152 #[.int .i64 (k:Int),.string ⟨p.toArray⟩,.int .i64 a,.int .i64 (n:Int),.int .i64 (le:Int),.int .i64 (ri:Int)],Ec (.slice Al nl cl) l,Qa g 121 #[roV,cmV,amV,.slice iA (N) iC,.slice dA (N) dC,.map (some km),.bool S.full,dec,cho,skp],Zw 152 km N M,Qh 152 6 (.slice iA N iC) N (S.infs.flatMap Xj),Qh 192 1 (.slice dA N dC) N dvs,Yy dvs S.der,X]:=y1;have hS:∀ W',St lo w0 W' [Qa w.heap.size 152 #[.int .i64 (k:Int),.string ⟨p.toArray⟩,.int .i64 a,.int .i64 (n:Int),.int .i64 (le:Int),.int .i64 (ri:Int)],Ec (.slice Al nl cl) l,Qa g 121 #[roV,cmV,amV,.slice iA (N) iC,.slice dA (N) dC,.map (some km),.bool S.full,dec,cho,skp],Zw 152 km N M,Qh 152 6 (.slice iA N iC) N (S.infs.flatMap Xj),Qh 192 1 (.slice dA N dC) N dvs,Yy dvs S.der,X]→W'.cell? ⟨w.heap.size,0,none⟩=some (.int .i64 (k:Int))∧W'.cell? ⟨w.heap.size,1,none⟩=some (.string ⟨p.toArray⟩)∧W'.cell? ⟨w.heap.size,2,none⟩=some (.int .i64 a)∧W'.cell? ⟨w.heap.size,3,none⟩=some (.int .i64 (n:Int))∧W'.cell? ⟨w.heap.size,4,none⟩=some (.int .i64 (le:Int))∧W'.cell? ⟨w.heap.size,5,none⟩=some (.int .i64 (ri:Int))∧W'.cell? ⟨g,5,none⟩=some (.map (some km)):=fun W' hW=>by obtain⟨b0,b1,b2,b3,b4,b5⟩:=bk6 hW.blk;exact⟨b0,b1,b2,b3,b4,b5,(hW.pk [2]).blk.cell 5⟩
 have hlook:∀ W',St lo w0 W' [Qa w.heap.size 152 #[.int .i64 (k:Int),.string ⟨p.toArray⟩,.int .i64 a,.int .i64 (n:Int),.int .i64 (le:Int),.int .i64 (ri:Int)],Ec (.slice Al nl cl) l,Qa g 121 #[roV,cmV,amV,.slice iA (N) iC,.slice dA (N) dC,.map (some km),.bool S.full,dec,cho,skp],Zw 152 km N M,Qh 152 6 (.slice iA N iC) N (S.infs.flatMap Xj),Qh 192 1 (.slice dA N dC) N dvs,Yy dvs S.der,X]→(Instr.lookup 117 (.map (some km)) (.agg #[.int .i64 (k:Int),.string ⟨p.toArray⟩,.int .i64 a,.int .i64 (n:Int),.int .i64 (le:Int),.int .i64 (ri:Int)]) true).run prog W'=.ok (.tuple #[(M (Cx (k,p,a,n,le,ri))).getD (.int .i64 0),.bool (M (Cx (k,p,a,n,le,ri))).isSome]) W':=fun W' hW =>(hW.pk [3]).mp.look_ok keyInf underlying117 (Rr W') hkey;have l1:=hlook W1 y1;have l2:=hlook W1.drew y1.drew;rw[hlk] at l1 l2;have F1:=Kd (hS W1 y1);have F2:=Kd (hS W1.drew y1.drew);have HS:=Kd hS;have Y1:=Kd y1;have HO:=Kd hs
 by_cases hm:(k,p,a,n,le,ri)∈S.infs
 ·have hadd:Tm.add S (k,p,a,n,le,ri) l=(S.infs.idxOf (k,p,a,n,le,ri),S):=by
   unfold Tm.add;rw[if_pos hm]
  rw[hadd];rw[if_pos hm] at l1 l2;simp only[Option.getD_some,Option.isSome_some] at l1 l2;obtain⟨ix,hix⟩:∃ ix,S.infs.idxOf (k,p,a,n,le,ri)=ix:=⟨_,rfl⟩;rw[hix] at l1 l2 ⊢;clear hadd hix hput hlk hm hlook hS y1 hs h hi hkey;go_enter func147,ntmps147;go_wp2_with fail;clear hW1;refine wp_region_noPanic ?_;refine wp_region_held_drew (S:=(fun W'=>W'.cell? ⟨w.heap.size,0,none⟩=some (.int .i64 (k:Int))∧W'.cell? ⟨w.heap.size,1,none⟩=some (.string ⟨p.toArray⟩)∧W'.cell? ⟨w.heap.size,2,none⟩=some (.int .i64 a)∧W'.cell? ⟨w.heap.size,3,none⟩=some (.int .i64 (n:Int))∧W'.cell? ⟨w.heap.size,4,none⟩=some (.int .i64 (le:Int))∧W'.cell? ⟨w.heap.size,5,none⟩=some (.int .i64 (ri:Int))∧W'.cell? ⟨g,5,none⟩=some (.map (some km)))) (by kernel_rfl) ?_ (fun hH0=>?_)
  ·exact F1.out
  refine tk 0 11 hH0 ?_;refine tk 1 12 hH0 ?_;refine tk 2 13 hH0 ?_;refine tk 3 14 hH0 ?_;refine tk 4 15 hH0 ?_;refine Zk [5] ?_;refine an 16 fun K hK=>?_;go_simp;refine hK.out _ _ ?_ (fun hH1=>?_)
  ·exact F1.out
  clear hK K hH0
  try simp only[pu]
  refine tk 6 10 hH1 ?_;refine tk 7 17 hH1 ?_;refine tk 8 18 hH1 ?_;refine tk 9 7 hH1 ?_;refine tk 10 8 hH1 ?_;refine dn ?_ _
  all_goals(refine NoPanic.normal ?_)
  go_wp2;go_ret;refine⟨⟨roV,cmV,amV,km,iA,iC,dA,dC,dvs,dec,cho,skp⟩,M,Kc.Same.refl _,HO.out,rfl,?_⟩;have:=Y1.out.drew.pk [2,3,4,5,6,7];unfold Z5 Q5;dsimp only;rw[hN];exact this
 ·rw [if_neg hm] at l1 l2
  simp only[Option.getD_none,Option.isSome_none] at l1 l2;have c3:W1.drew.cell? ⟨g,3,none⟩=some (.slice iA N iC):=(y1.drew.pk [2]).blk.cell 3;have c6:W1.drew.cell? ⟨g,6,none⟩=some (.bool S.full):=(y1.drew.pk [2]).blk.cell 6;have z6:W1.drew.frozen? ⟨g,6,none⟩=false:=(y1.drew.pk [2]).blk.frozen 6;have c3':W1.cell? ⟨g,3,none⟩=some (.slice iA N iC):=(y1.pk [2]).blk.cell 3;have c6':W1.cell? ⟨g,6,none⟩=some (.bool S.full):=(y1.pk [2]).blk.cell 6;have z6':W1.frozen? ⟨g,6,none⟩=false:=(y1.pk [2]).blk.frozen 6
  by_cases hbig:65536≤N
  ·have hadd:Tm.add S (k,p,a,n,le,ri) l=(N-1,{ S with full:=true }):=by
    unfold Tm.add;rw[if_neg hm,if_pos (by rw[hN];exact hbig),hN]
   rw[hadd];have hb2:decide ((65536:Int)≤(N:Int))=true:=decide_eq_true (by omega);have wr1:IntKind.i64.wrap ((N:Int)-1)=(N:Int)-1 :=(by rw[IntKind.wrap_i64];omega);have HB:=Kd2 hbig hsm;clear hbig hsm hadd hput hlk hm hlook hS y1 hs h hi hkey;go_enter func147,ntmps147;go_wp2_with fail;clear hW1;refine wp_region_noPanic ?_;refine wp_region_held_drew (S:=(fun W'=>W'.cell? ⟨w.heap.size,0,none⟩=some (.int .i64 (k:Int))∧W'.cell? ⟨w.heap.size,1,none⟩=some (.string ⟨p.toArray⟩)∧W'.cell? ⟨w.heap.size,2,none⟩=some (.int .i64 a)∧W'.cell? ⟨w.heap.size,3,none⟩=some (.int .i64 (n:Int))∧W'.cell? ⟨w.heap.size,4,none⟩=some (.int .i64 (le:Int))∧W'.cell? ⟨w.heap.size,5,none⟩=some (.int .i64 (ri:Int))∧W'.cell? ⟨g,5,none⟩=some (.map (some km)))) (by kernel_rfl) ?_ (fun hH0=>?_)
   ·exact F1.out
   refine tk 0 11 hH0 ?_;refine tk 1 12 hH0 ?_;refine tk 2 13 hH0 ?_;refine tk 3 14 hH0 ?_;refine tk 4 15 hH0 ?_;refine Zk [5] ?_;refine an 16 fun K hK=>?_;go_simp;refine hK.out _ _ ?_ (fun hH1=>?_)
   ·exact F1.out
   clear hK K hH0
   try simp only[pu]
   refine tk 6 10 hH1 ?_;refine tk 7 17 hH1 ?_;refine tk 8 18 hH1 ?_;refine tk 9 7 hH1 ?_;refine tk 10 8 hH1 ?_;refine dn ?_ _
   all_goals(refine NoPanic.normal ?_)
   go_wp2;go_ret;refine⟨⟨roV,cmV,amV,km,iA,iC,dA,dC,dvs,dec,cho,skp⟩,M,Kc.Same.refl _,⟨HO.out.known,HO.out.ok,HO.out.len,HO.out.small⟩,by rw[show ((N-1:Nat):Int)=(N:Int)-1 by have:=HB.out.1;omega];rfl,?_⟩;have:=((Y1.out.drew.pk [2,3,4,5,6,7]).set_ 6 (.bool true));simp only[List.setIfInBounds_toArray,List.set_cons_zero,List.set_cons_succ] at this;unfold Z5 Q5;dsimp only;rw[hN];exact this
  ·have hadd:Tm.add S (k,p,a,n,le,ri) l=(N,⟨S.infs++[(k,p,a,n,le,ri)],S.der++[l],S.full⟩):=by
    unfold Tm.add;rw[if_neg hm,if_neg (by rw[hN];exact hbig),hN]
   rw[hadd];have hb2:decide ((65536:Int)≤(N:Int))=false:=decide_eq_false (by omega);have hput:=hput hm;rw[hN] at hput;have HP:=Kd3 hput hm hi;have hnm:N<maxLen :=(by unfold maxLen;omega);have HB:=Kd3 hbig hsm hnm;clear hbig hsm hnm hadd hput hlk hm hlook hS y1 hs h hi;go_enter func147,ntmps147;go_wp2_with fail;clear hW1;refine wp_region_noPanic ?_;refine wp_region_held_drew (S:=(fun W'=>W'.cell? ⟨w.heap.size,0,none⟩=some (.int .i64 (k:Int))∧W'.cell? ⟨w.heap.size,1,none⟩=some (.string ⟨p.toArray⟩)∧W'.cell? ⟨w.heap.size,2,none⟩=some (.int .i64 a)∧W'.cell? ⟨w.heap.size,3,none⟩=some (.int .i64 (n:Int))∧W'.cell? ⟨w.heap.size,4,none⟩=some (.int .i64 (le:Int))∧W'.cell? ⟨w.heap.size,5,none⟩=some (.int .i64 (ri:Int))∧W'.cell? ⟨g,5,none⟩=some (.map (some km)))) (by kernel_rfl) ?_ (fun hH0=>?_)
   ·exact F1.out
   refine tk 0 11 hH0 ?_;refine tk 1 12 hH0 ?_;refine tk 2 13 hH0 ?_;refine tk 3 14 hH0 ?_;refine tk 4 15 hH0 ?_;refine Zk [5] ?_;refine an 16 fun K hK=>?_;go_simp;refine hK.out _ _ ?_ (fun hH1=>?_)
   ·exact F1.out
   clear hK K hH0
   try simp only[pu]
   refine tk 6 10 hH1 ?_;refine tk 7 17 hH1 ?_;refine tk 8 18 hH1 ?_;refine tk 9 7 hH1 ?_;refine tk 10 8 hH1 ?_;refine dn ?_ _
   all_goals(refine NoPanic.normal ?_)
   go_wp2_with fail;have yP:=Y1.out.drew.pk [3,0,1,2,4,5,6,7];refine wp_region_noPanic ?_;refine wp_region_held_drew (S:=(fun W'=>W'.cell? ⟨w.heap.size,0,none⟩=some (.int .i64 (k:Int))∧W'.cell? ⟨w.heap.size,1,none⟩=some (.string ⟨p.toArray⟩)∧W'.cell? ⟨w.heap.size,2,none⟩=some (.int .i64 a)∧W'.cell? ⟨w.heap.size,3,none⟩=some (.int .i64 (n:Int))∧W'.cell? ⟨w.heap.size,4,none⟩=some (.int .i64 (le:Int))∧W'.cell? ⟨w.heap.size,5,none⟩=some (.int .i64 (ri:Int))∧W'.cell? ⟨g,5,none⟩=some (.map (some km)))) (by kernel_rfl) ?_ (fun hH0=>?_)
   ·exact F2.out
   refine tk 0 41 hH0 ?_;refine tk 1 42 hH0 ?_;refine tk 2 43 hH0 ?_;refine tk 3 44 hH0 ?_;refine tk 4 45 hH0 ?_;refine tk 5 46 hH0 ?_;refine Zk [6] ?_;refine az fun K hK=>?_
   (
    refine X4 (val:=.int .i64 (N:Int)) 117 yP.drew keyInf underlying117 rfl _ _ _ rfl (by rfl) HB.out.2.2 (by rfl) (by rfl) hkey ?_;intro w6 h6
    have e6:w6.cell? ⟨w.heap.size,0,none⟩=some (.int .i64 (k:Int))∧w6.cell? ⟨w.heap.size,1,none⟩=some (.string ⟨p.toArray⟩)∧w6.cell? ⟨w.heap.size,2,none⟩=some (.int .i64 a)∧w6.cell? ⟨w.heap.size,3,none⟩=some (.int .i64 (n:Int))∧w6.cell? ⟨w.heap.size,4,none⟩=some (.int .i64 (le:Int))∧w6.cell? ⟨w.heap.size,5,none⟩=some (.int .i64 (ri:Int))∧w6.cell? ⟨g,5,none⟩=some (.map (some km)):=by
     obtain⟨b0,b1,b2,b3,b4,b5⟩:=bk6 h6.tail.blk
     exact⟨b0,b1,b2,b3,b4,b5,(h6.pk [3]).blk.cell 5⟩)
   refine hK.out _ _ ?_ (fun hH1=>?_)
   ·exact e6
   clear hK K hH0
   try simp only[pu]
   refine dn ?_ _
   all_goals(refine NoPanic.normal ?_)
   have H6:=Kd h6;obtain⟨b0,b1,b2,b3,b4,b5⟩:=bk6 h6.tail.blk;have g3:w6.cell? ⟨g,3,none⟩=some (.slice iA N iC):=(h6.pk [3]).blk.cell 3;have z3:w6.frozen? ⟨g,3,none⟩=false:=(h6.pk [3]).blk.frozen 3;have q1:Hid (N+1≤maxLen):=Kd (by have:=HB.out.2.1;unfold maxLen;omega);have q2:Hid ((N+1)*56≤140737488355328):=Kd (by have:=HB.out.2.1;omega);have q3:Hid ((N+1)*24≤140737488355328):=Kd (by have:=HB.out.2.1;omega);have gl:g<w6.heap.size:=World.block_lt_of_cell? w6 _ g3;have bl:w.heap.size<w6.heap.size:=World.block_lt_of_cell? w6 _ b0;have yQ:=h6.pk [4,0,1,2,3,5,6,7];have YQ:=Kd yQ;clear e6 h6 yQ yP F1 F2 HS l1 l2 c3 c6 z6 c3' c6' z6';go_wp2_with fail
   go_region_law (first
    | (refine Ee 48 (te:=152) #[.int .i64 (k:Int),.string ⟨p.toArray⟩,.int .i64 a,.int .i64 (n:Int),.int .i64 (le:Int),.int .i64 (ri:Int)] YQ.out underlying48 info_inf rfl (by decide) _ _ (by rfl) (by rfl) (by rfl) (by rfl) rfl (by intro u hu;simp at hu;rcases hu with rfl|rfl|rfl|rfl|rfl|rfl<;>rfl) q1.out q2.out ?_
       intro gg cap w7 h7
       obtain⟨g4,z4⟩:=And.intro ((h7.pk [4]).blk.cell 3) ((h7.pk [4]).blk.frozen 3))
    |fail)
   all_goals(
    have y8:=(h7.pk [4,5,1,0,3,6,7]).set_ 3 (.slice (some ⟨gg,0,none⟩) (N+1) cap);simp only[List.setIfInBounds_toArray,List.set_cons_zero,List.set_cons_succ] at y8;have Y8:=Kd y8;clear y8 h7 g4 z4 b0 b1 b2 b3 b4 b5 g3 z3 gl bl YQ
    try rw[show ∀(W:World) (p:Addr) (v:Value),(W.setCell p v).drew=W.drew.setCell p v from fun _ _ _=>rfl]
    generalize w7.setCell ⟨g,3,none⟩ (.slice (some ⟨gg,0,none⟩) (N+1) cap)=w8 at Y8 ⊢;have g5:w8.cell? ⟨g,4,none⟩=some (.slice dA N dC):=Y8.out.blk.cell 4;have YD:=Kd Y8.out.swap;clear Y8;go_wp2_with (at_builtin;go_must (refine Vr 116 YD.out underlying116 C5 rfl rfl _ _ rfl rfl rfl rfl q1.out q3.out ?_);intro v9 w9 h9;obtain⟨A9,c9,rfl,-,-⟩:=Q4 h9.own;obtain⟨g6,z6⟩:w9.cell? ⟨g,4,none⟩=some (.slice dA N dC)∧w9.frozen? ⟨g,4,none⟩=false:=And.intro (h9.tail.blk.cell 4) (h9.tail.blk.frozen 4));have yE:=((((h9.swap.set_ 4 (.slice A9 (N+1) c9)).pk [4,5,0,1,2,3,6]).addDer).pk [1,3,4,2,0,5]);simp only[List.setIfInBounds_toArray,List.set_cons_zero,List.set_cons_succ] at yE;have YE:=Kd yE;clear yE h9;go_ret;refine⟨⟨roV,cmV,amV,km,some ⟨gg,0,none⟩,cap,A9,c9,dvs++[.slice Al nl cl],dec,cho,skp⟩,_,⟨rfl,rfl,rfl,rfl,rfl,rfl⟩,⟨HP.out.1,fun j hj=>?_,?_,?_⟩,rfl,?_⟩
    ·rcases List.mem_append.1 hj with hj|hj
     ·exact HO.out.ok j hj
     ·obtain rfl:=List.mem_singleton.1 hj
      exact HP.out.2.2
    ·rw[List.length_append,List.length_append,HO.out.len]
     rfl
    ·have:=HB.out.1
     rw[List.length_append,hN];show N+1≤65536;omega
    ·unfold Z5 Q5
     dsimp only;rw[List.length_append,hN,List.flatMap_append]
     exact YE.out)
structure okN (n:Tm.Zi):Prop where
 q:Zu n.q
 path:n.path.length≤4294967000
 place:0≤n.place∧n.place<1000000
 number:n.number≤4294967000
theorem Hp {lo:Nat} {w0 w:World} {X:Q3} (n:Tm.Zi) (v:Value) (F:Nat→Prop) (g:Nat) (V:Kc) (M:Lit→Option Value) (S:Tm.Qv) (h:St lo w0 w (Z5 g V M S++[X])) (hs:Gg M S) (hn:okN n) (hset:Qr w F v n.q.set):
 Calls prog 97 #[.pointer (some ⟨g,0,none⟩),.agg #[.string ⟨n.q.path.toArray⟩,v,.string ⟨n.path.toArray⟩,.int .i64 n.place,.int .i64 (n.number:Int)]] w (AddP lo w0 g V X (Tm.infer S n)):=by
 obtain⟨q,p,pl,num⟩:=n;obtain⟨hq,hp,hpl,hnum⟩:=hn;dsimp only at hq hp hpl hnum hset ⊢;obtain⟨Aq,nq,cq,rfl⟩:=hset.shape;obtain⟨W1,hW1⟩:∃ W1,w.alloc (.cells #[.string ⟨q.path.toArray⟩,.slice Aq nq cq,.string ⟨p.toArray⟩,.int .i64 pl,.int .i64 (num:Int)] 182)=W1:=⟨_,rfl⟩;have y1:=h.alloc 182 #[.string ⟨q.path.toArray⟩,.slice Aq nq cq,.string ⟨p.toArray⟩,.int .i64 pl,.int .i64 (num:Int)];rw[hW1] at y1;have z1:Below w.heap.size w W1:=by rw[←hW1];exact b1 w _
 have c2:=y1.blk.cell 2;have HO:=Kd hs;have hbe:((⟨p.toArray⟩:ByteArray).toList==(⟨#[]⟩:ByteArray).toList)=(p==[]):=by rw[Q7,show (⟨#[]⟩:ByteArray).toList=[] from Q7 []]
 by_cases hpe:p=[]
 ·subst hpe
  have hadd:Tm.infer S ⟨q,[],pl,num⟩=Tm.add S (0,[],0,num,0,0) (Tm.Ux q):=if_pos rfl;rw[hadd];have HN:=Kd (show Vv (0,[],0,num,0,0) from⟨Nat.zero_le 3,Nat.zero_le 4294967000,⟨Int.le_refl 0,(by decide:(0:Int)<1000000)⟩,hnum,Nat.zero_le 4294967000,Nat.zero_le 4294967000⟩);have Y1:=Kd y1;clear y1 h hs hadd hpl hp;have hinf:Vv (0,[],0,num,0,0):=HN.out;have kr:∀ W,Below W1.heap.size W1 W→Calls prog 148 #[.agg #[.string ⟨q.path.toArray⟩,.slice Aq nq cq]] W fun e w'=>∃ A n c,e=.returned (.slice A n c)∧Below W1.heap.size W1 w'∧St lo w0 w' (Ec (.slice A n c) (Tm.Ux q)::Qa w.heap.size 182 #[.string ⟨q.path.toArray⟩,.slice Aq nq cq,.string ⟨#[]⟩,.int .i64 pl,.int .i64 (num:Int)]::(Z5 g V M S++[X])):=fun W hb=>by refine(root_spec q _ _ W ((hset.below z1).below hb) hq).mono ?_;rintro e w' ⟨A,n,c,rfl,z,t⟩;exact⟨A,n,c,rfl,hb.trans (z.mono hb.size),(Y1.out.under hb).newTrm z t⟩
  have ka:∀ W A n c,St lo w0 W (Ec (.slice A n c) (Tm.Ux q)::Qa w.heap.size 182 #[.string ⟨q.path.toArray⟩,.slice Aq nq cq,.string ⟨#[]⟩,.int .i64 pl,.int .i64 (num:Int)]::(Z5 g V M S++[X]))→Calls prog 147 #[.pointer (some ⟨g,0,none⟩),.agg #[.int .i64 0,.string ⟨#[]⟩,.int .i64 0,.int .i64 (num:Int),.int .i64 0,.int .i64 0],.slice A n c] W fun e w'=>∃ V' M',V.Same V'∧Gg M' (Tm.add S (0,[],0,num,0,0) (Tm.Ux q)).2∧e=.returned (.int .i64 ((Tm.add S (0,[],0,num,0,0) (Tm.Ux q)).1:Int))∧St lo w0 w' (Qa w.heap.size 182 #[.string ⟨q.path.toArray⟩,.slice Aq nq cq,.string ⟨#[]⟩,.int .i64 pl,.int .i64 (num:Int)]::(Z5 g V' M' (Tm.add S (0,[],0,num,0,0) (Tm.Ux q)).2++[X])):=fun W A n c hW=>by have h1:St lo w0 W (Ec (.slice A n c) (Tm.Ux q)::(Z5 g V M S++[Zm [Qa w.heap.size 182 #[.string ⟨q.path.toArray⟩,.slice Aq nq cq,.string ⟨#[]⟩,.int .i64 pl,.int .i64 (num:Int)],X]])):=(St.group (Ps:=[Qa w.heap.size 182 #[.string ⟨q.path.toArray⟩,.slice Aq nq cq,.string ⟨#[]⟩,.int .i64 pl,.int .i64 (num:Int)],X]) (hW.pick [1,7,0,2,3,4,5,6] (by decide) (by simp[Z5]))).pk [1,2,3,4,5,6,0];refine(Dz (0,[],0,num,0,0) _ A n c g V M S h1 HO.out hinf).mono ?_;rintro e w' ⟨V',M',hs,ho,rfl,h2⟩;exact⟨V',M',hs,ho,rfl,(St.ungroup (Ps:=[Qa w.heap.size 182 #[.string ⟨q.path.toArray⟩,.slice Aq nq cq,.string ⟨#[]⟩,.int .i64 pl,.int .i64 (num:Int)],X]) (h2.pick [5,0,1,2,3,4] (by decide) (by simp[Z5]))).pk [0,2,3,4,5,6,1]⟩
  have KR:=Kd kr;have KA:=Kd ka;have F0:=Kd (fun W' (Rs:List Q3) (hW:St lo w0 W' (Qa w.heap.size 182 #[.string ⟨q.path.toArray⟩,.slice Aq nq cq,.string ⟨#[]⟩,.int .i64 pl,.int .i64 (num:Int)]::Rs))=>(⟨hW.blk.cell 0,hW.blk.cell 1,hW.blk.cell 2,hW.blk.cell 3,hW.blk.cell 4⟩:W'.cell? ⟨w.heap.size,0,none⟩=some (.string ⟨q.path.toArray⟩)∧W'.cell? ⟨w.heap.size,1,none⟩=some (.slice Aq nq cq)∧W'.cell? ⟨w.heap.size,2,none⟩=some (.string ⟨#[]⟩)∧W'.cell? ⟨w.heap.size,3,none⟩=some (.int .i64 pl)∧W'.cell? ⟨w.heap.size,4,none⟩=some (.int .i64 (num:Int))));have r0:=Below.refl W1.heap.size W1;clear kr ka hset hinf;go_enter func97,ntmps97;go_wp2_with fail;clear hW1;refine wp_region_noPanic ?_;refine wp_region_held_drew (S:=(fun W'=>W'.cell? ⟨w.heap.size,0,none⟩=some (.string ⟨q.path.toArray⟩)∧W'.cell? ⟨w.heap.size,1,none⟩=some (.slice Aq nq cq)∧W'.cell? ⟨w.heap.size,2,none⟩=some (.string ⟨#[]⟩)∧W'.cell? ⟨w.heap.size,3,none⟩=some (.int .i64 pl)∧W'.cell? ⟨w.heap.size,4,none⟩=some (.int .i64 (num:Int)))) (by kernel_rfl) ?_ (fun hH0=>?_)
  ·exact F0.out _ _ Y1.out.drew
  refine tk 0 8 hH0 ?_;refine tk 1 9 hH0 ?_;refine tk 2 10 hH0 ?_;refine tk 3 11 hH0 ?_;refine tk 4 12 hH0 ?_;refine tk 5 13 hH0 ?_;refine Zk [6] ?_;refine an 14 fun K hK=>?_
  go_simp;(
   with_reducible refine(KR.out _ r0.drew).mono ?_
   rintro e w2 ⟨A2,n2,c2,rfl,r2,y2⟩);go_wp2_with fail
  refine hK.out _ _ ?_ (fun hH1=>?_)
  ·exact F0.out _ _ y2.tail
  clear hK K hH0
  try simp only[pu]
  refine Zk [7] ?_;refine an 15 fun K hK=>?_
  go_simp;(
   with_reducible refine(KA.out _ _ _ _ y2).mono ?_
   rintro e w3 ⟨V',M',hs,ho,rfl,y3⟩);go_wp2_with fail
  refine hK.out _ _ ?_ (fun hH2=>?_)
  ·exact F0.out _ _ y3
  clear hK K hH1
  try simp only[pu]
  refine tk 8 4 hH2 ?_;refine dn ?_ _
  all_goals(refine NoPanic.normal ?_)
  have Y3:=Kd3 hs ho y3.tail;clear y2 y3 hs ho;go_wp2;go_ret;exact⟨V',M',Y3.out.1,Y3.out.2.1,rfl,Y3.out.2.2⟩
 ·have hadd:Tm.infer S ⟨q,p,pl,num⟩=Tm.add S (1,p,pl,num,0,0) (Tm.G0 p pl q):=if_neg hpe
  rw[hadd];have HN:=Kd (show Vv (1,p,pl,num,0,0) from⟨(by decide:1≤3),hp,hpl,hnum,Nat.zero_le 4294967000,Nat.zero_le 4294967000⟩)
  have hbf:p.isEmpty=false:=by cases p with
   |nil=>exact absurd rfl hpe
   |cons a p=>rfl
  have Y1:=Kd y1;clear y1 h hs hadd hbe;have hinf:Vv (1,p,pl,num,0,0):=HN.out;have kr:∀ W,Below W1.heap.size W1 W→Calls prog 149 #[.string ⟨p.toArray⟩,.int .i64 pl,.agg #[.string ⟨q.path.toArray⟩,.slice Aq nq cq]] W fun e w'=>∃ A n c,e=.returned (.slice A n c)∧Below W1.heap.size W1 w'∧St lo w0 w' (Ec (.slice A n c) (Tm.G0 p pl q)::Qa w.heap.size 182 #[.string ⟨q.path.toArray⟩,.slice Aq nq cq,.string ⟨p.toArray⟩,.int .i64 pl,.int .i64 (num:Int)]::(Z5 g V M S++[X])):=fun W hb=>by refine(Fb p pl q _ _ W ((hset.below z1).below hb) hq hp hpl.1 hpl.2).mono ?_;rintro e w' ⟨A,n,c,rfl,z,t⟩;exact⟨A,n,c,rfl,hb.trans (z.mono hb.size),(Y1.out.under hb).newTrm z t⟩
  have ka:∀ W A n c,St lo w0 W (Ec (.slice A n c) (Tm.G0 p pl q)::Qa w.heap.size 182 #[.string ⟨q.path.toArray⟩,.slice Aq nq cq,.string ⟨p.toArray⟩,.int .i64 pl,.int .i64 (num:Int)]::(Z5 g V M S++[X]))→Calls prog 147 #[.pointer (some ⟨g,0,none⟩),.agg #[.int .i64 1,.string ⟨p.toArray⟩,.int .i64 pl,.int .i64 (num:Int),.int .i64 0,.int .i64 0],.slice A n c] W fun e w'=>∃ V' M',V.Same V'∧Gg M' (Tm.add S (1,p,pl,num,0,0) (Tm.G0 p pl q)).2∧e=.returned (.int .i64 ((Tm.add S (1,p,pl,num,0,0) (Tm.G0 p pl q)).1:Int))∧St lo w0 w' (Qa w.heap.size 182 #[.string ⟨q.path.toArray⟩,.slice Aq nq cq,.string ⟨p.toArray⟩,.int .i64 pl,.int .i64 (num:Int)]::(Z5 g V' M' (Tm.add S (1,p,pl,num,0,0) (Tm.G0 p pl q)).2++[X])):=fun W A n c hW=>by have h1:St lo w0 W (Ec (.slice A n c) (Tm.G0 p pl q)::(Z5 g V M S++[Zm [Qa w.heap.size 182 #[.string ⟨q.path.toArray⟩,.slice Aq nq cq,.string ⟨p.toArray⟩,.int .i64 pl,.int .i64 (num:Int)],X]])):=(St.group (Ps:=[Qa w.heap.size 182 #[.string ⟨q.path.toArray⟩,.slice Aq nq cq,.string ⟨p.toArray⟩,.int .i64 pl,.int .i64 (num:Int)],X]) (hW.pick [1,7,0,2,3,4,5,6] (by decide) (by simp[Z5]))).pk [1,2,3,4,5,6,0];refine(Dz (1,p,pl,num,0,0) _ A n c g V M S h1 HO.out hinf).mono ?_;rintro e w' ⟨V',M',hs,ho,rfl,h2⟩;exact⟨V',M',hs,ho,rfl,(St.ungroup (Ps:=[Qa w.heap.size 182 #[.string ⟨q.path.toArray⟩,.slice Aq nq cq,.string ⟨p.toArray⟩,.int .i64 pl,.int .i64 (num:Int)],X]) (h2.pick [5,0,1,2,3,4] (by decide) (by simp[Z5]))).pk [0,2,3,4,5,6,1]⟩
  have KR:=Kd kr;have KA:=Kd ka;have F0:=Kd (fun W' (Rs:List Q3) (hW:St lo w0 W' (Qa w.heap.size 182 #[.string ⟨q.path.toArray⟩,.slice Aq nq cq,.string ⟨p.toArray⟩,.int .i64 pl,.int .i64 (num:Int)]::Rs))=>(⟨hW.blk.cell 0,hW.blk.cell 1,hW.blk.cell 2,hW.blk.cell 3,hW.blk.cell 4⟩:W'.cell? ⟨w.heap.size,0,none⟩=some (.string ⟨q.path.toArray⟩)∧W'.cell? ⟨w.heap.size,1,none⟩=some (.slice Aq nq cq)∧W'.cell? ⟨w.heap.size,2,none⟩=some (.string ⟨p.toArray⟩)∧W'.cell? ⟨w.heap.size,3,none⟩=some (.int .i64 pl)∧W'.cell? ⟨w.heap.size,4,none⟩=some (.int .i64 (num:Int))));have r0:=Below.refl W1.heap.size W1;clear kr ka hset hinf;go_enter func97,ntmps97;go_wp2_with fail;clear hW1;refine wp_region_noPanic ?_;refine wp_region_held_drew (S:=(fun W'=>W'.cell? ⟨w.heap.size,0,none⟩=some (.string ⟨q.path.toArray⟩)∧W'.cell? ⟨w.heap.size,1,none⟩=some (.slice Aq nq cq)∧W'.cell? ⟨w.heap.size,2,none⟩=some (.string ⟨p.toArray⟩)∧W'.cell? ⟨w.heap.size,3,none⟩=some (.int .i64 pl)∧W'.cell? ⟨w.heap.size,4,none⟩=some (.int .i64 (num:Int)))) (by kernel_rfl) ?_ (fun hH0=>?_)
  ·exact F0.out _ _ Y1.out.drew
  refine tk 0 16 hH0 ?_;refine tk 1 17 hH0 ?_;refine tk 2 18 hH0 ?_;refine tk 3 19 hH0 ?_;refine tk 4 20 hH0 ?_;refine tk 5 21 hH0 ?_;refine tk 6 22 hH0 ?_;refine tk 7 23 hH0 ?_;refine tk 8 24 hH0 ?_;refine tk 9 25 hH0 ?_;refine tk 10 26 hH0 ?_;refine tk 11 27 hH0 ?_;refine tk 12 28 hH0 ?_;refine tk 13 29 hH0 ?_;refine Zk [14] ?_;refine an 30 fun K hK=>?_
  go_simp;(
   with_reducible refine(KR.out _ r0.drew).mono ?_
   rintro e w2 ⟨A2,n2,c2,rfl,r2,y2⟩);go_wp2_with fail
  refine hK.out _ _ ?_ (fun hH1=>?_)
  ·exact F0.out _ _ y2.tail
  clear hK K hH0
  try simp only[pu]
  refine Zk [15] ?_;refine an 31 fun K hK=>?_
  go_simp;(
   with_reducible refine(KA.out _ _ _ _ y2).mono ?_
   rintro e w3 ⟨V',M',hs,ho,rfl,y3⟩);go_wp2_with fail
  refine hK.out _ _ ?_ (fun hH2=>?_)
  ·exact F0.out _ _ y3
  clear hK K hH1
  try simp only[pu]
  refine tk 16 4 hH2 ?_;refine dn ?_ _
  all_goals(refine NoPanic.normal ?_)
  have Y3:=Kd3 hs ho y3.tail;clear y2 y3 hs ho;go_wp2;go_ret;exact⟨V',M',Y3.out.1,Y3.out.2.1,rfl,Y3.out.2.2⟩
def Jb (P:List Tm.Qk) (l:List Tm.Qu):Prop:=Tm.G6 l∧∀ t∈l,t.path∈P∧Tm.Jz 0 t.set
structure Iu (P:List Tm.Qk):Prop where
 len:P.length≤524000
 small:∀ p∈P,p.length≤4294967000
theorem Gk {α:Type} [BEq α] [LawfulBEq α]:∀(L P:List α),L.Nodup→(∀ a∈L,a∈P)→L.length≤P.length
 |[],P,_,_=>Nat.zero_le _
 | a::L,P,hn,h=>by
   obtain⟨h1,h2⟩:=List.nodup_cons.1 hn;have ha:=h a (List.mem_cons_self ..)
   have:=Gk L (P.erase a) h2 (fun b hb=>by
    have hne:b≠a:=fun e=>h1 (e▸hb)
    exact(List.mem_erase_of_ne hne).2 (h b (List.mem_cons_of_mem _ hb)))
   rw[List.length_erase_of_mem ha] at this;have hp:0<P.length:=List.length_pos_of_mem ha;rw[List.length_cons];omega
theorem Jb.len {P:List Tm.Qk} {l:List Tm.Qu} (h:Jb P l):l.length≤P.length:=by
 have h1:(l.map (·.path)).Nodup:=by
  unfold List.Nodup;rw[List.pairwise_map];refine h.1.imp fun {a b} hab e=>?_;rw[e,Tm.Qs] at hab
  cases hab
 have:=Gk (l.map (·.path)) P h1 (fun p hp=>by
  obtain⟨t,ht,rfl⟩:=List.mem_map.1 hp
  exact(h.2 t ht).1)
 rw[List.length_map] at this;exact this
theorem Jb.small {P:List Tm.Qk} (hP:Iu P) {l:List Tm.Qu} (h:Jb P l):∀ t∈l,Yk t:=fun t ht=>⟨U6 (h.2 t ht).2,hP.small _ (h.2 t ht).1⟩
theorem Jb.of_can {P:List Tm.Qk} {L c:List Tm.Qu} (h:Tm.Zh L=some c) (hL:∀ t∈L,t.path∈P):Jb P c:=by obtain⟨h1,h2,-⟩:=Tm.K7 h;refine⟨h1,fun t ht=>⟨?_,h2 t ht⟩⟩;obtain⟨v,hv,e⟩:=Tm.Gy h t ht;rw[←e];exact hL v hv
theorem Jb.nil (P:List Tm.Qk):Jb P []:=⟨List.Pairwise.nil,fun t ht=>by cases ht⟩
theorem Jb.ofT {P:List Tm.Qk} {L:List Tm.Qu} (hL:∀ t∈L,t.path∈P):Jb P (Tm.ofT L):=by
 unfold Tm.ofT
 cases h:Tm.Zh L with
 |none=>exact Jb.nil P
 |some c=>exact Jb.of_can h hL
theorem Jb.root {P:List Tm.Qk} {q:Tm.Qw} (h:q.path∈P):Jb P (Tm.Ux q):=Jb.ofT fun t ht=>by obtain rfl:=List.mem_singleton.1 ht;exact h
theorem Jb.req {P:List Tm.Qk} {p:Tm.Qk} {pl:Int} {q:Tm.Qw} (h0:p∈P) (h:q.path∈P):Jb P (Tm.G0 p pl q):=Jb.ofT fun t ht=>by
 rcases List.mem_cons.1 ht with rfl|ht
 ·exact h0
 ·obtain rfl:=List.mem_singleton.1 ht
  exact h
theorem Jb.none {P:List Tm.Qk} {p:Tm.Qk} {s:List Tm.Sp} (h0:p∈P):Jb P (Tm.Xc p s):=Jb.ofT fun t ht=>by obtain rfl:=List.mem_singleton.1 ht;exact h0
theorem Lv {a r:List Tm.Qu} {q:Tm.Qk} {t:Tm.Qu} (h:Tm.Zj a q=some (t,r)):∃ c,Tm.Zh a=some c∧t∈c∧∀ u∈r,u∈c:=by
 unfold Tm.Zj at h
 cases hc:Tm.Zh a with
 |none=>rw[hc] at h;cases h
 | some c=>
   rw[hc] at h;dsimp only at h
   cases hf:c.find? (fun t=>t.path==q) with
   |none=>rw[hf] at h;cases h
   |some u =>rw[hf] at h;have h:=Option.some.inj h;obtain⟨rfl,rfl⟩:=Prod.mk.inj h;exact⟨c,rfl,List.mem_of_find?_eq_some hf,fun u hu=>List.mem_of_mem_eraseP hu⟩
theorem Jb.res {P:List Tm.Qk} {a b l:List Tm.Qu} {q:Tm.Qk} (ha:Jb P a) (hb:Jb P b) (h:Tm.Vf a b q=some l):Jb P l:=by
 cases h1:Tm.Zj a q with
 |none=>rw[Sm h1] at h;cases h
 | some x=>
   obtain⟨t,r⟩:=x
   cases h2:Tm.Zj b q with
   |none=>rw[L2 h2] at h;cases h
   | some y=>
     obtain⟨u,m⟩:=y;rw[Ca h1 h2] at h;obtain⟨c,hc,g1,g2⟩:=Lv h1;obtain⟨d,hd,k1,k2⟩:=Lv h2;have pc:=(Jb.of_can hc (fun t ht=>(ha.2 t ht).1)).2;have pd:=(Jb.of_can hd (fun t ht=>(hb.2 t ht).1)).2;refine Jb.of_can h fun v hv=>?_;rcases List.mem_append.1 hv with hv|hv
     ·rcases List.mem_append.1 hv with hv|hv
      ·exact(pc v (g2 v hv)).1
      ·exact(pd v (k2 v hv)).1
     ·obtain rfl:=List.mem_singleton.1 hv
      exact(pc t g1).1
def Wx (P:List Tm.Qk) (S:Tm.Qv):Prop:=∀ l∈S.der,Jb P l
theorem Wx.add {P:List Tm.Qk} {S:Tm.Qv} (h:Wx P S) (i:Tm.D7) {l:List Tm.Qu} (hl:Jb P l):Wx P (Tm.add S i l).2:=by
 unfold Tm.add
 split
 ·exact h
 ·split
  ·exact h
  ·intro m hm
   rcases List.mem_append.1 hm with hm|hm
   ·exact h m hm
   ·rw[List.mem_singleton.1 hm]
    exact hl
theorem Wx.infer {P:List Tm.Qk} {S:Tm.Qv} (h:Wx P S) (n:Tm.Zi) (h1:n.q.path∈P) (h2:¬ n.path=[]→n.path∈P):Wx P (Tm.infer S n).2:=by
 unfold Tm.infer
 split
 ·exact h.add _ (Jb.root h1)
 ·rename_i hn
  exact h.add _ (Jb.req (h2 hn) h1)
theorem Wx.get {P:List Tm.Qk} {S:Tm.Qv} (h:Wx P S) (k:Nat):Jb P (S.der.getD k []):=by
 by_cases hk:k<S.der.length
 ·rw[Tm.Kw _ _ hk]
  exact h _ (List.getElem_mem hk)
 ·rw[Tm.To _ _ (Nat.le_of_not_lt hk)]
  exact Jb.nil P
theorem Mh {S:Tm.Qv} (hl:S.der.length=S.infs.length) (i:Tm.D7) (l:List Tm.Qu):(Tm.add S i l).1<(Tm.add S i l).2.der.length∧S.der.length≤(Tm.add S i l).2.der.length∧(Tm.add S i l).2.der.length=(Tm.add S i l).2.infs.length:=by
 unfold Tm.add
 split
 ·rename_i h
  refine⟨?_,Nat.le_refl _,hl⟩;dsimp only;rw[hl];exact List.idxOf_lt_length_of_mem h
 ·split
  ·rename_i h
   refine⟨?_,Nat.le_refl _,hl⟩;dsimp only;omega
  ·refine⟨?_,?_,?_⟩
   ·dsimp only
    rw[List.length_append,List.length_singleton,hl];omega
   ·dsimp only
    rw[List.length_append];omega
   ·dsimp only
    rw[List.length_append,List.length_append,hl];rfl
theorem C6 {S:Tm.Qv} (hl:S.der.length=S.infs.length) (n:Tm.Zi):(Tm.infer S n).1<(Tm.infer S n).2.der.length∧S.der.length≤(Tm.infer S n).2.der.length∧(Tm.infer S n).2.der.length=(Tm.infer S n).2.infs.length:=by
 unfold Tm.infer
 split
 ·exact Mh hl _ _
 ·exact Mh hl _ _
def O4 (A:Option Addr) (L:List Nat):Q3 where
 P w F:=Z9 w F A (Q8 L)∧∀ k,F k→k<w.heap.size
 lt h:=h.2
 mod h hm hG:=⟨h.1.keep (Qm.of_mod hm hG),fun k hk=>Nat.lt_of_lt_of_le (h.2 k hk) hm.size⟩
theorem St.nt {lo:Nat} {w0 w:World} {Rs:List Q3} {A:Option Addr} {L:List Nat} (h:St lo w0 w (O4 A L::Rs)):Z9 w (fun k=>lo≤k) A (Q8 L):=by obtain⟨F,h1,h2,_⟩:=h.open;exact h1.1.mono h2
theorem St.derAt {lo:Nat} {w0 w:World} {g:Nat} {V:Kc} {M:Lit→Option Value} {S:Tm.Qv} {X:Q3} (h:St lo w0 w (Z5 g V M S++[X])) (hs:Gg M S) {k:Nat} (hk:k<S.der.length):∃(db:Nat) (A:Option Addr) (n c:Nat),V.dA=some ⟨db,0,none⟩∧db<w.heap.size∧w.cell? ⟨db,k,none⟩=some (.slice A n c)∧Zs w (fun j=>lo≤j) (.slice A n c) (S.der.getD k []):=by
 have ho:St lo w0 w [Qh 192 1 (.slice V.dA S.infs.length V.dC) S.infs.length V.dvs]:=(h.pick [3] (by decide) (by simp[Z5]));have hd:=(h.pick [4] (by decide) (by simp[Z5])).ders;have hn:k<V.dvs.length:=by rw[hd.1];exact hk
 have hN:0<S.infs.length:=by have:=hs.len;omega
 obtain⟨db,c',e,hg,-,-⟩:=Zx ho.own hN;obtain⟨e1,-,e3⟩:=Value.slice.inj e;have hc:St lo w0 w [Qh 192 1 (.slice (some ⟨db,0,none⟩) S.infs.length V.dC) S.infs.length V.dvs]:=e1▸ho;obtain⟨hcell,-⟩:=hc.cellAt (List.getElem?_eq_getElem hn);have ht:=hd.2 k _ _ (List.getElem?_eq_getElem hn) (List.getElem?_eq_getElem hk);obtain⟨A,c,ev,-,-⟩:=ht.shape;rw[ev] at hcell ht;refine⟨db,A,_,c,e1,hg,hcell,?_⟩;rw[Tm.Kw _ _ hk];exact ht
theorem St.litQu {lo:Nat} {w0 w:World} {Rs:List Q3} {g n size:Nat} {t:TypeId} {cs:Array Value} (h:St lo w0 w (Qa g t cs::Rs)) (hl:cs.toList.length=n*size) (hn:n≤maxLen):St lo w0 w (Ja size (.slice (some ⟨g,0,none⟩) n n) n cs.toList::Rs):=h.turn fun F hF=>by
 obtain⟨hb,rfl⟩:=hF;refine⟨⟨_,g,0,n,rfl,hn,⟨Nat.le_refl _,fun _=>rfl,fun _=>hb.lt,hl,fun j u hj=>?_,fun j hj=>?_⟩,fun _=>rfl⟩,fun k hk=>?_⟩
 ·rw[Nat.zero_add,hb.cell j]
  simpa using hj
 ·rw[Nat.sub_self,Nat.zero_mul] at hj
  exact absurd hj (Nat.not_lt_zero _)
 ·subst hk
  exact hb.lt
def Nj (lo:Nat) (w0 wS:World) (F:Nat→Prop) (R:Q3):Prop:=∀ w Rs,St lo w0 w (R::Rs)→Qm F wS w
theorem Nj.group {lo:Nat} {w0 wS:World} {F:Nat→Prop} {R:Q3} {L:List Q3} (h:Nj lo w0 wS F R) (hm:R∈L):Nj lo w0 wS F (Zm L):=fun w Rs hst=>by obtain⟨s,t,rfl⟩:=List.append_of_mem hm;exact h w _ ((St.ungroup hst).permR (List.perm_middle.append_right Rs))
theorem zero_set (w:World):(zeroValue 41).run prog w=.ok (.slice none 0 0) w:=by kernel_rfl
theorem Nx (path:Tm.Qk) (r:Nat) (rs:List Nat) (a:Nat) (s:Tm.Qv):Tm.learnL path (r::rs) a s=if s.full=true∨Tm.Qn (s.der.getD a []) path=false then (a,s)
 else if r=a then Tm.learnL path rs a s
 else match Tm.Vf (s.der.getD a []) (s.der.getD r []) path with
  |none=>Tm.learnL path rs a s
  |some l=>Tm.learnL path rs (Tm.add s (3,path,0,0,a,r) l).1 (Tm.add s (3,path,0,0,a,r) l).2:=rfl
theorem learn_spec {lo:Nat} {w0 wS w:World} {X:Q3} (x:List Tm.Qp) (P:List Tm.Qk) (path:Tm.Qk) (n:Tm.Zi) (v:Value) (F:Nat→Prop) (rs:List Nat) (rA:Option Addr) (rC ab amn:Nat) (MA:Lit→Option Value) (avA:Option Addr) (avn avc g:Nat) (V:Kc) (M:Lit→Option Value) (S:Tm.Qv) (hF:Nj lo w0 wS F X)
 (h:St lo w0 w (O4 rA rs::(Z5 g V M S++[X]))) (hs:Gg M S) (hD:Wx P S) (hP:Iu P) (hn:okN n) (hp:path∈P) (hnq:n.q.path∈P) (hnp:¬ n.path=[]→n.path∈P) (hset:Qr wS F v n.q.set) (hrs:∀ r∈rs,r<S.der.length) (hrl:rs.length≤1048576)
 (ham:V.am=.map (some ab)) (hma:Jd wS 9 ab amn MA) (hFa:F ab) (hav:(MA (.string path)).getD (.slice none 0 0)=.slice avA avn avc) (havs:Qr wS F (.slice avA avn avc) (Tm.Qy x path)) (hal:(Tm.Qy x path).length≤4294967296):
 Calls prog 102 #[.pointer (some ⟨g,0,none⟩),.string ⟨path.toArray⟩,.agg #[.string ⟨n.q.path.toArray⟩,v,.string ⟨n.path.toArray⟩,.int .i64 n.place,.int .i64 (n.number:Int)],.slice rA rs.length rC] w (AddP lo w0 g V X (Tm.Wq x path n rs S)):=by
 obtain⟨Aq,nq,cq,rfl⟩:=hset.shape;obtain⟨W1,hW1⟩:∃ W1,w.alloc (.cells #[.string ⟨n.q.path.toArray⟩,.slice Aq nq cq,.string ⟨n.path.toArray⟩,.int .i64 n.place,.int .i64 (n.number:Int)] 182)=W1:=⟨_,rfl⟩;have y1:=h.alloc 182 #[.string ⟨n.q.path.toArray⟩,.slice Aq nq cq,.string ⟨n.path.toArray⟩,.int .i64 n.place,.int .i64 (n.number:Int)];rw[hW1] at y1;have b0:=y1.blk.cell 0;have b1:=y1.blk.cell 1;have b2:=y1.blk.cell 2;have b3:=y1.blk.cell 3;have b4:=y1.blk.cell 4;have y2:St lo w0 W1 (Z5 g V M S++[Zm [O4 rA rs,X]]):=(St.group (Ps:=[O4 rA rs,X]) (y1.pick [1,7,2,3,4,5,6] (by decide) (by simp[Z5]))).pk [1,2,3,4,5,0];have ki:=Hp n _ F g V M S y2 hs hn (hset.keep (hF _ _ (y1.pick [7] (by decide) (by simp[Z5]))));have hpl:=hP.small path hp;have hkey:=Zb path (by unfold maxLen;omega:path.length≤maxLen);obtain⟨res,hres⟩:∃ res,Tm.Wq x path n rs S=res:=⟨_,rfl⟩;rw[hres];unfold Tm.Wq at hres;have hil:=C6 hs.len n;have hiD:=hD.infer n hnq hnp;obtain⟨⟨at0,S1⟩,hS1⟩:∃ r,Tm.infer S n=r:=⟨_,rfl⟩;rw[hS1] at ki hres hil hiD;dsimp only at hres hil hiD;have HX:=Kd10 hP hp hma hFa hav havs hal hF hrs hrl;have H1:=Kd3 hres hil hiD;obtain⟨R,hR⟩:∃ R,rs.length=R:=⟨_,rfl⟩;rw[hR];have HR:=Kd hR;clear y1 y2 h hs hD hP hn hp hnq hnp hset hrs hrl hma hFa hav havs hal hF hres hil hiD hS1 hR;go_enter func102,ntmps102;go_wp2_with fail;refine ki.mono ?_;rintro e w2 ⟨V1,M1,hv1,ho1,rfl,y2⟩;dsimp only at ho1 y2;obtain⟨hP,hp,hma,hFa,hav,havs,hal,hF,hrs,hrl⟩:=HX.out;have kp:=(hF.group (L:=[O4 rA rs,X]) (List.mem_of_getElem? (i:=1) rfl)) _ _ (y2.pick [5] (by decide) (by simp[Z5]));have g2:w2.cell? ⟨g,2,none⟩=some (.map (some ab)):=by have:=(y2.pick [0] (by decide) (by simp[Z5])).blk.cell 2;have e:(Q5 V1 S1)[2]?=some V1.am:=rfl;rw[e,hv1.am,ham] at this;exact this
 have l1:=(hma.keep kp hFa).look J8 underlying115 (zero_set w2) hkey;rw[hav] at l1;have kn:=none_spec path (Tm.Qy x path) _ _ w2 (havs.keep kp) hal hpl;have H2:=Kd2 hv1 ho1;have Y2:=Kd y2;clear ki y2 hP hp hma hFa hav havs hal hF hrs hrl kp hv1 ho1 hW1;go_wp2_with fail;refine kn.mono ?_;rintro e w3 ⟨A3,n3,c3,rfl,z3,t3⟩;have ka:Calls prog 147 #[.pointer (some ⟨g,0,none⟩),.agg #[.int .i64 2,.string ⟨path.toArray⟩,.int .i64 0,.int .i64 0,.int .i64 0,.int .i64 0],.slice A3 n3 c3] w3 (AddP lo w0 g V1 (Zm [O4 rA rs,X]) (Tm.add S1 (2,path,0,0,0,0) (Tm.Xc path (Tm.Qy x path)))):=Dz (2,path,0,0,0,0) (Tm.Xc path (Tm.Qy x path)) A3 n3 c3 g V1 M1 S1 (Y2.out.newTrm z3 t3) H2.out.2 (show Vv (2,path,0,0,0,0) from⟨(by decide:2≤3),hpl,⟨Int.le_refl 0,(by decide:(0:Int)<1000000)⟩,Nat.zero_le 4294967000,Nat.zero_le 4294967000,Nat.zero_le 4294967000⟩);obtain⟨⟨nn,S2⟩,hS2⟩:∃ r,Tm.add S1 (2,path,0,0,0,0) (Tm.Xc path (Tm.Qy x path))=r:=⟨_,rfl⟩;rw[hS2] at ka;have HS2:=Kd hS2;clear kn z3 t3 l1 g2 hS2;go_wp2_with fail;refine ka.mono ?_;rintro e w4 ⟨V2,M2,hv2,ho2,rfl,y4⟩;dsimp only at ho2 y4;have hil:=H1.out.2.1;have hD2:=H1.out.2.2.add (2,path,0,0,0,0) (Jb.none (s:=Tm.Qy x path) HX.out.2.1);have hl2:=Mh hil.2.2 (2,path,0,0,0,0) (Tm.Xc path (Tm.Qy x path));have hres:=H1.out.1;rw[HS2.out] at hD2 hl2 hres;dsimp only at hD2 hl2 hres;have hR:=HR.out
 have hnn:∀ r∈nn::rs,r<S2.der.length:=fun r hr=>by
  rcases List.mem_cons.1 hr with rfl|hr
  ·exact hl2.1
  ·have:=HX.out.2.2.2.2.2.2.2.2.1 r hr
   omega
 have y4:=y4.alloc 3 #[.int .i64 (nn:Int)];have hrd:=(St.ungroup (Ps:=[O4 rA rs,X]) (y4.pick [6] (by decide) (by simp[Z5]))).nt;have q0:1+R≤maxLen:=by have:=HX.out.2.2.2.2.2.2.2.2.2;unfold maxLen;omega
 have q1:(1+R)*8≤140737488355328:=by have:=HX.out.2.2.2.2.2.2.2.2.2;omega
 have hyl:(Q8 rs).length=R*1:=by rw[Jn,Nat.mul_one,hR]
 have y5:=y4.litQu (n:=1) (size:=1) rfl (by decide);have H4:=Kd8 hv2 ho2 hD2 hnn hres hl2.2.1 (Nat.lt_of_lt_of_le hil.1 hl2.2.1) hR;have Y5:=Kd y5;have HRD:=Kd (hrd.mono (G:=fun _=>True) fun _ _=>trivial);clear ka y4 y5 hv2 ho2 hil hD2 hl2 hres hR hnn hrd;obtain⟨R1,hR1⟩:∃ R1,1+R=R1:=⟨_,rfl⟩;go_wp2_with (at_builtin;go_must (refine Jw 54 Y5.out underlying54 Wg rfl HRD.out hyl (by decide) (S6 rs) q0 q1 rfl _ _ rfl rfl rfl ?_);intro A5 c5 w5 h5;rw[hR1];rw[hR1] at h5);have y6:St lo w0 w5 (Z5 g V2 M2 S2++[Zm [Ja 1 (.slice A5 R1 c5) R1 (Q8 (nn::rs)),Zm [O4 rA rs,X]]]):=(St.group (Ps:=[Ja 1 (.slice A5 R1 c5) R1 (Q8 (nn::rs)),Zm [O4 rA rs,X]]) (h5.pick [0,6,1,2,3,4,5] (by decide) (by simp[Z5]))).pk [1,2,3,4,5,0];obtain⟨hv2,ho2,hD2,hnn,hres,hil,hat,hR⟩:=H4.out;have Hnn:=Kd2 hnn hR;have HV:=Kd hv2;have HW:=Kd (Kd5 ho2 hD2 hres hat y6);rw[hR1] at q0;have HZ:R1≤9223372036854775807:=Nat.le_trans q0 (by decide);clear h5 y6 hv2 ho2 hD2 hnn hres hil hat hR Y5 HRD H4 HS2 q0 q1 hyl;obtain⟨D2,hD2⟩:∃ D,S2.der.length=D:=⟨_,rfl⟩;rw[hD2] at Hnn;have HR1:=Kd2 hR1 hD2;clear hR1 hD2;go_wp2
 go_loopw [35,9] (fun i cur wr=>∃(k a:Nat) (V3:Kc) (M3:Lit→Option Value) (S3:Tm.Qv),k≤R1∧i=.int .i64 k∧cur=.int .i64 a∧Hid (V2.Same V3∧Gg M3 S3∧Wx P S3∧a<S3.der.length∧D2≤S3.der.length∧res=Tm.learnL path ((nn::rs).drop k) a S3)∧Hid (St lo w0 wr (Z5 g V3 M3 S3++[Zm [Ja 1 (.slice A5 R1 c5) R1 (Q8 (nn::rs)),Zm [O4 rA rs,X]]]))) (fun i _ _=>R1-(intOf i).toNat)
 case atStart =>obtain⟨h1,h2,h3,h4,h5⟩:=HW.out.out;exact⟨0,at0,V2,M2,S2,Nat.zero_le _,rfl,rfl,Kd ⟨Kc.Same.refl _,h1,h2,h4,Nat.le_of_eq HR1.out.2.symm,h3.symm⟩,Kd h5⟩
 case round=>
  obtain⟨k,a,V3,M3,S3,hk,rfl,rfl,hr1,hr2⟩:=hrel;have hfin:res=(a,S3)→AddP lo w0 g V X res (.returned (.int .i64 (a:Int))) wr:=fun e=>by subst e;obtain⟨h1,h2,h3,h4,h5,h6⟩:=hr1.out;have t1:=St.ungroup (Ps:=[Ja 1 (.slice A5 R1 c5) R1 (Q8 (nn::rs)),Zm [O4 rA rs,X]]) (hr2.out.pick [5,0,1,2,3,4] (by decide) (by simp[Z5]));have t2:=St.ungroup (Ps:=[O4 rA rs,X]) (t1.tail);exact⟨V3,M3,(H2.out.1.trans HV.out).trans h1,h2,rfl,t2.pick [2,3,4,5,6,1] (by decide) (by simp[Z5])⟩
  have HF:=Kd hfin;clear hfin
  by_cases hlt:k<R1
  ·obtain ⟨hnn,hR⟩:=Hnn.out
   obtain⟨h1,h2,h3,h4,h5,h6⟩:=hr1.out;have hkl:k<(nn::rs).length :=(by rw[List.length_cons];have:=HR1.out.1;omega);obtain⟨b,off,rfl,hb,-,hc⟩:=(hr2.out.pick [5] (by decide) (by simp[Z5]) |> St.ungroup (Ps:=[Ja 1 (.slice A5 R1 c5) R1 (Q8 (nn::rs)),Zm [O4 rA rs,X]])).qu_cell (by omega);have c0:=hc k (.int .i64 ((nn::rs)[k]:Int)) (by unfold Q8;rw[List.getElem?_map,List.getElem?_eq_getElem hkl];rfl);have hrb:=hnn _ (List.getElem_mem hkl);rw[List.drop_eq_getElem_cons hkl] at h6;generalize (nn::rs)[k]=r at c0 hrb h6;rw[Nx] at h6;have hra:r<S3.der.length :=(by have:=HR1.out.2;omega);obtain⟨db,Aa,na,ca,hdA,hdb,da,ta⟩:=hr2.out.derAt h2 h4;obtain⟨db',Ar,nr,cr,hdA',-,dr,tr⟩:=hr2.out.derAt h2 hra;have e:=hdA.symm.trans hdA';injection e with e;injection e with e;subst e;clear hdA';have c4:wr.cell? ⟨g,4,none⟩=some (.slice (some ⟨db,0,none⟩) S3.infs.length V3.dC) :=(by have:=(hr2.out.pick [0] (by decide) (by simp[Z5])).blk.cell 4;have e:(Q5 V3 S3)[4]?=some (.slice V3.dA S3.infs.length V3.dC):=rfl;rw[e,hdA] at this;exact this);have c6:wr.cell? ⟨g,6,none⟩=some (.bool S3.full):=(hr2.out.pick [0] (by decide) (by simp[Z5])).blk.cell 6;have kc:=Vq (S3.der.getD a []) _ _ path wr ta;have i0:(0:Int)≤(k:Int):=Int.natCast_nonneg _;have i1:(k:Int)<(R1:Int):=Int.ofNat_lt.2 hlt;have i2:(0:Int)≤(a:Int):=Int.natCast_nonneg _;have i3:(a:Int)<(S3.infs.length:Int) :=(by have:=h2.len;omega);have i4:(0:Int)≤(r:Int):=Int.natCast_nonneg _;have i5:(r:Int)<(S3.infs.length:Int) :=(by have:=h2.len;omega);have HN:=Kd9 h1 h2 h3 h4 h5 h6 hra hlt hdA;obtain⟨I3,hI3⟩:∃ n,S3.infs.length=n:=⟨_,rfl⟩;rw[hI3] at c4 i3 i5;obtain⟨fu,hfu⟩:∃ f,S3.full=f:=⟨_,rfl⟩;rw[hfu] at c6;obtain⟨cn,hcn⟩:∃ f,Tm.Qn (S3.der.getD a []) path=f:=⟨_,rfl⟩;rw[hcn] at kc;have HB:=Kd3 hfu hcn hI3;have TA:=Kd2 ta tr;clear hnn hR h1 h2 h3 h4 h5 h6 hra hdA hI3 hfu hcn hkl hc hrb ta tr hlt
   cases fu with
   |true =>go_wp2;go_ret;exact HF.out (by rw[HN.out.2.2.2.2.2.1,if_pos (.inl HB.out.1)])
   | false =>
     go_wp2_with fail;refine kc.mono ?_;rintro e w7 ⟨rfl,z7⟩;have t7:=hr2.out.under z7;have T7:=Kd t7;have HF7:Hid (res=(a,S3)→AddP lo w0 g V X res (.returned (.int .i64 (a:Int))) w7):=Kd fun e=>by subst e;obtain⟨h1,h2,h3,h4,h5,h6⟩:=hr1.out;have t1:=St.ungroup (Ps:=[Ja 1 (.slice (some ⟨b,off,none⟩) R1 c5) R1 (Q8 (nn::rs)),Zm [O4 rA rs,X]]) (t7.pick [5,0,1,2,3,4] (by decide) (by simp[Z5]));have t2:=St.ungroup (Ps:=[O4 rA rs,X]) (t1.tail);exact⟨V3,M3,(H2.out.1.trans HV.out).trans h1,h2,rfl,t2.pick [2,3,4,5,6,1] (by decide) (by simp[Z5])⟩
     have Z7:=Kd z7;have hdg:g<wr.heap.size:=World.block_lt_of_cell? wr _ c4;have F7:=Kd3 ((z7.cell (p:=⟨g,4,none⟩) hdg).trans c4) ((z7.cell (p:=⟨db,a,none⟩) hdb).trans da) ((z7.cell (p:=⟨db,r,none⟩) hdb).trans dr);clear kc t7 z7 HF hr1 hr2 c0 c6 c4 da dr
     cases cn with
     |false =>go_wp2;go_ret;exact HF7.out (by rw[HN.out.2.2.2.2.2.1,if_pos (.inr HB.out.2.1)])
     | true=>
       have h6:=HN.out.2.2.2.2.2.1
       rw[if_neg (fun e=>by
        rcases e with e|e
        ·rw[HB.out.1] at e
         cases e
        ·rw[HB.out.2.1] at e
         cases e)] at h6
       by_cases hra:r=a
       ·rw[if_pos hra] at h6
        subst hra;have H6:=Kd h6;clear h6;go_wp2
        go_roundw
        case rel=>exact⟨k+1,r,V3,M3,S3,Nat.succ_le_of_lt HN.out.2.2.2.2.2.2.2.1,by go_num,rfl,Kd ⟨HN.out.1,HN.out.2.1,HN.out.2.2.1,HN.out.2.2.2.1,HN.out.2.2.2.2.1,H6.out⟩,T7⟩
        case measure=>have:=HN.out.2.2.2.2.2.2.2.1;simp[intOf];omega
       ·rw [if_neg hra] at h6
        have hne:decide ((r:Int)=(a:Int))=false:=decide_eq_false (by omega);have H6:=Kd h6;clear h6
        have kr:∀ W,Below w7.heap.size w7 W→Calls prog 153 #[.slice Aa na ca,.slice Ar nr cr,.string ⟨path.toArray⟩] W fun e w'=>∃(A:Option Addr) (n c:Nat) (er:Int),e=.returned (.tuple #[.slice A n c,.int .i64 er])∧Hid (er=0∨er=1∨er=8)∧w'.cell? ⟨g,4,none⟩=some (.slice (some ⟨db,0,none⟩) I3 V3.dC)∧w'.cell? ⟨db,a,none⟩=some (.slice Aa na ca)∧w'.cell? ⟨db,r,none⟩=some (.slice Ar nr cr)∧Hid ((er=0∧∃ l,Tm.Vf (S3.der.getD a []) (S3.der.getD r []) path=some l∧St lo w0 w' (Ec (.slice A n c) l::(Z5 g V3 M3 S3++[Zm [Ja 1 (.slice (some ⟨b,off,none⟩) R1 c5) R1 (Q8 (nn::rs)),Zm [O4 rA rs,X]]])))∨(¬ er=0∧Tm.Vf (S3.der.getD a []) (S3.der.getD r []) path=none∧St lo w0 w' (Z5 g V3 M3 S3++[Zm [Ja 1 (.slice (some ⟨b,off,none⟩) R1 c5) R1 (Q8 (nn::rs)),Zm [O4 rA rs,X]]]))):=fun W hW=>by
         obtain⟨hP,-⟩:=HX.out;obtain⟨h1,h2,h3,h4,h5,h6,hra',-,-⟩:=HN.out;have hb1:=Z7.out.trans (hW.mono Z7.out.size);have la:=Nat.le_trans (h3.get a).len hP.len;have lr:=Nat.le_trans (h3.get r).len hP.len;refine(Ox _ _ _ _ _ _ path W (TA.out.1.below hb1) (TA.out.2.below hb1) ((h3.get a).small hP) ((h3.get r).small hP) la lr).mono ?_;rintro e w' ⟨z,A,n',c',er,rfl,her,e0,e1⟩;have t:=T7.out.under hW;have t':=t.under z;have zz:=hW.trans (z.mono hW.size);have l4:=World.block_lt_of_cell? w7 _ F7.out.1;have ld:=World.block_lt_of_cell? w7 _ F7.out.2.1;refine⟨A,n',c',er,rfl,Kd her,?_,?_,?_,Kd ?_⟩
         ·exact(zz.cell (p:=⟨g,4,none⟩) l4).trans F7.out.1
         ·exact(zz.cell (p:=⟨db,a,none⟩) ld).trans F7.out.2.1
         ·exact(zz.cell (p:=⟨db,r,none⟩) ld).trans F7.out.2.2
         ·by_cases h0:er=0
          ·obtain⟨l,e,hl⟩:=e0 h0
           exact .inl ⟨h0,l,e,t.newTrm z hl⟩
          ·exact .inr ⟨h0,e1 h0,t'⟩
        have KR:=Kd kr;have r7:=Below.refl w7.heap.size w7;clear kr;go_wp2_with fail;refine wp_region_noPanic ?_;refine wp_region_held_drew (S:=(fun W'=>W'.cell? ⟨g,4,none⟩=some (.slice (some ⟨db,0,none⟩) I3 V3.dC)∧W'.cell? ⟨db,a,none⟩=some (.slice Aa na ca)∧W'.cell? ⟨db,r,none⟩=some (.slice Ar nr cr))) (by kernel_rfl) ?_ (fun hH0=>?_)
        ·exact F7.out
        refine tk 0 60 hH0 ?_;refine tk 1 61 hH0 ?_;refine tk 2 62 hH0 ?_;refine tk 3 63 hH0 ?_;refine tk 4 64 hH0 ?_;refine tk 5 65 hH0 ?_;refine tk 6 66 hH0 ?_;refine tk 7 67 hH0 ?_;refine tk 8 68 hH0 ?_;refine tk 9 69 hH0 ?_;refine tk 10 70 hH0 ?_;refine tk 11 71 hH0 ?_;refine tk 12 72 hH0 ?_;refine tk 13 73 hH0 ?_;refine tk 14 74 hH0 ?_;refine Zk [15] ?_;refine an 75 fun K hK=>?_
        go_simp;(
         with_reducible refine(KR.out _ r7.drew).mono ?_
         rintro e w8 ⟨A8,n8,c8,er,rfl,her,e4,e5,e6,h8⟩
         have E8:=Kd3 e4 e5 e6);go_wp2_with fail
        refine hK.out _ _ ?_ (fun hH1=>?_)
        ·exact E8.out
        clear hK K hH0
        try simp only[pu]
        refine tk 16 59 hH1 ?_;refine tk 17 76 hH1 ?_;refine tk 18 77 hH1 ?_;refine tk 19 13 hH1 ?_;refine tk 20 14 hH1 ?_;refine dn ?_ _
        all_goals(refine NoPanic.normal ?_)
        clear r7;rcases h8.out with⟨rfl,l,hl,t8⟩|⟨h0,hl,t8⟩
        ·have h6:=H6.out
         rw[hl] at h6;dsimp only at h6;obtain⟨hP,hp,-⟩:=HX.out;have hsm:=HN.out.2.1.small;have hln:=HN.out.2.1.len;have hra':=HN.out.2.2.2.2.2.2.1;have haa:=HN.out.2.2.2.1;have ka:Calls prog 147 #[.pointer (some ⟨g,0,none⟩),.agg #[.int .i64 3,.string ⟨path.toArray⟩,.int .i64 0,.int .i64 0,.int .i64 (a:Int),.int .i64 (r:Int)],.slice A8 n8 c8] w8 (AddP lo w0 g V3 (Zm [Ja 1 (.slice (some ⟨b,off,none⟩) R1 c5) R1 (Q8 (nn::rs)),Zm [O4 rA rs,X]]) (Tm.add S3 (3,path,0,0,a,r) l)):=Dz (3,path,0,0,a,r) l A8 n8 c8 g V3 M3 S3 t8 HN.out.2.1 (show Vv (3,path,0,0,a,r) from⟨(by decide:3≤3),hP.small path hp,⟨Int.le_refl 0,(by decide:(0:Int)<1000000)⟩,Nat.zero_le 4294967000,(by omega:a≤4294967000),(by omega:r≤4294967000)⟩);have hD4:=HN.out.2.2.1.add (3,path,0,0,a,r) ((HN.out.2.2.1.get a).res (HN.out.2.2.1.get r) hl);have hl4:=Mh hln (3,path,0,0,a,r) l;obtain⟨⟨a4,S4⟩,hS4⟩:∃ r',Tm.add S3 (3,path,0,0,a,r) l=r':=⟨_,rfl⟩;rw[hS4] at ka h6 hD4 hl4;dsimp only at h6 hD4 hl4;have H8:=Kd3 h6 hD4 hl4;clear t8 hP hp hsm hln hra' haa h6 hD4 hl4 hS4 hl h8 e4 e5 e6 her;go_wp2_with fail;refine ka.mono ?_;rintro e w9 ⟨V4,M4,hv4,ho4,rfl,y9⟩;dsimp only at ho4 y9;have H9:=Kd3 hv4 ho4 y9;clear ka hv4 ho4 y9;go_wp2
         go_roundw
         case rel=>exact⟨k+1,a4,V4,M4,S4,Nat.succ_le_of_lt HN.out.2.2.2.2.2.2.2.1,by go_num,rfl,Kd ⟨HN.out.1.trans H9.out.1,H9.out.2.1,H8.out.2.1,H8.out.2.2.1,Nat.le_trans HN.out.2.2.2.2.1 H8.out.2.2.2.1,H8.out.1⟩,Kd H9.out.2.2⟩
         case measure=>have:=HN.out.2.2.2.2.2.2.2.1;simp[intOf];omega
        ·have h6:=H6.out
         rw[hl] at h6;dsimp only at h6;have H8:=Kd h6;have T8:=Kd t8;have e0:decide (er=0)=false:=decide_eq_false h0;clear t8 h6 hl h8 e4 e5 e6;go_wp2
         go_roundw
         case rel=>exact⟨k+1,a,V3,M3,S3,Nat.succ_le_of_lt HN.out.2.2.2.2.2.2.2.1,by go_num,rfl,Kd ⟨HN.out.1,HN.out.2.1,HN.out.2.2.1,HN.out.2.2.2.1,HN.out.2.2.2.2.1,H8.out⟩,T8⟩
         case measure=>have:=HN.out.2.2.2.2.2.2.2.1;simp[intOf];omega
  ·obtain rfl:k=R1:=Nat.le_antisymm hk (Nat.le_of_not_lt hlt)
   have hge:decide ((k:Int)<(k:Int))=false :=(by simp);have hl:res=(a,S3) :=(by rw[hr1.out.2.2.2.2.2,List.drop_eq_nil_of_le (by rw[List.length_cons];have:=Hnn.out.2;have:=HR1.out.1;omega)];rfl);go_wp2;go_ret;exact HF.out hl
def Gf (r:Qi):List Value:=.int .i64 (Jt r)::Xi r
def Vd (w:World) (F:Nat→Prop) (v:Value) (X:List Qi):Prop:=∃ A c,v=.slice A X.length c∧X.length≤c∧c≤maxLen∧Z9 w F A (X.flatMap Gf)
section
variable {w w':World} {F G:Nat→Prop} {v:Value} {X:List Qi}
theorem Vd.keep (h:Vd w F v X) (hk:Qm F w w'):Vd w' F v X:=by obtain⟨A,c,e1,h1,h2,h3⟩:=h;exact⟨A,c,e1,h1,h2,h3.keep hk⟩
theorem Vd.below (h:Vd w F v X) (hb:Below w.heap.size w w'):Vd w' F v X:=h.keep (Qm.of_below hb)
theorem Vd.mono (h:Vd w F v X) (hF:∀ k,F k→G k):Vd w G v X:=by obtain⟨A,c,e1,h1,h2,h3⟩:=h;exact⟨A,c,e1,h1,h2,h3.mono hF⟩
theorem Vd.nil (w:World) (F:Nat→Prop):Vd w F (.slice none 0 0) []:=⟨none,0,rfl,Nat.le_refl _,by decide,.inl rfl⟩
theorem Dw {A:Option Addr} (h:Z9 w F A (X.flatMap Gf)) {j:Nat} (hj:j<X.length):∃ b off,A=some ⟨b,off,none⟩∧b<w.heap.size∧w.cell? ⟨b,off+j*10,none⟩=some (.int .i64 (Jt X[j]))∧w.cell? ⟨b,off+j*10+1,none⟩=some (.string ⟨X[j].path.toArray⟩)∧w.cell? ⟨b,off+j*10+2,none⟩=some (.int .i64 X[j].major)∧
 w.cell? ⟨b,off+j*10+3,none⟩=some (.int .i64 X[j].minor)∧w.cell? ⟨b,off+j*10+4,none⟩=some (.int .i64 X[j].patch)∧w.cell? ⟨b,off+j*10+5,none⟩=some X[j].rv∧w.cell? ⟨b,off+j*10+6,none⟩=some (.string ⟨X[j].arch.toArray⟩)∧
 w.cell? ⟨b,off+j*10+7,none⟩=some (.string ⟨X[j].iface.toArray⟩)∧w.cell? ⟨b,off+j*10+8,none⟩=some (.string ⟨X[j].cert.toArray⟩)∧w.cell? ⟨b,off+j*10+9,none⟩=some (.bool X[j].yank):=by
 obtain⟨b,off,e,_,h1,h2⟩:=h.get (fun _=>rfl) hj (k:=10) (by decide);exact⟨b,off,e,h1,h2 0 _ rfl,h2 1 _ rfl,h2 2 _ rfl,h2 3 _ rfl,h2 4 _ rfl,h2 5 _ rfl,h2 6 _ rfl,h2 7 _ rfl,h2 8 _ rfl,h2 9 _ rfl⟩
end
theorem Ge:∀ X:List Qi,(X.flatMap Gf).length=X.length*10
 |[]=>rfl
 |r::X=>by rw[List.flatMap_cons,List.length_append,Ge X,List.length_cons,Nat.succ_mul,Nat.add_comm];rfl
abbrev Zq:=Tm.Zi×Value
def Hn (x:Zq):List Value:=[.string ⟨x.1.q.path.toArray⟩,x.2,.string ⟨x.1.path.toArray⟩,.int .i64 x.1.place,.int .i64 (x.1.number:Int)]
def M9 (x:Zq):Value:=.agg #[.string ⟨x.1.q.path.toArray⟩,x.2,.string ⟨x.1.path.toArray⟩,.int .i64 x.1.place,.int .i64 (x.1.number:Int)]
theorem Sz {w:World} {F:Nat→Prop} {X:List Zq} {A:Option Addr} (h:Z9 w F A (X.flatMap Hn)) {j:Nat} (hj:j<X.length):∃ b off,A=some ⟨b,off,none⟩∧b<w.heap.size∧w.cell? ⟨b,off+j*5,none⟩=some (.string ⟨X[j].1.q.path.toArray⟩)∧w.cell? ⟨b,off+j*5+1,none⟩=some X[j].2∧
 w.cell? ⟨b,off+j*5+2,none⟩=some (.string ⟨X[j].1.path.toArray⟩)∧w.cell? ⟨b,off+j*5+3,none⟩=some (.int .i64 X[j].1.place)∧w.cell? ⟨b,off+j*5+4,none⟩=some (.int .i64 (X[j].1.number:Int)):=by
 obtain⟨b,off,e,_,h1,h2⟩:=h.get (fun _=>rfl) hj (k:=5) (by decide);exact⟨b,off,e,h1,h2 0 _ rfl,h2 1 _ rfl,h2 2 _ rfl,h2 3 _ rfl,h2 4 _ rfl⟩
theorem done1_spec (r:Qi) (p:Tm.Qk) (g:Nat) (w:World) (hr:r.rv.cells.size=1) (hg:w.cell? ⟨g,0,none⟩=some (.string ⟨p.toArray⟩)):
 Calls prog 201 #[.agg #[.int .i64 (Jt r),.string ⟨r.path.toArray⟩,.int .i64 r.major,.int .i64 r.minor,.int .i64 r.patch,r.rv,.string ⟨r.arch.toArray⟩,.string ⟨r.iface.toArray⟩,.string ⟨r.cert.toArray⟩,.bool r.yank],.pointer (some ⟨g,0,none⟩)] w fun e w'=>e=.returned (.bool (r.path==p))∧Below w.heap.size w w':=by
 have hl:=World.block_lt_of_cell? w _ hg;have hb:((⟨r.path.toArray⟩:ByteArray).toList==(⟨p.toArray⟩:ByteArray).toList)=(r.path==p):=by rw[Q7,Q7]
 generalize r.path=q at hb ⊢;generalize r.rv=u at hr ⊢;go_enter func201,ntmps201;go_wp2;go_ret;exact⟨rfl,b1 w _⟩
def xV (X:List Qi) (j:Nat):Qi:=X.getD j ⟨[],0,0,0,[],.slice none 0 0,[],[],[],false⟩
theorem done_spec (X:List Qi) (p:Tm.Qk) (v:Value) (F:Nat→Prop) (g:Nat) (w:World) (hg:w.cell? ⟨g,7,none⟩=some v) (h:Vd w F v X) (hX:∀ r∈X,r.rv.cells.size=1):
 Calls prog 144 #[.pointer (some ⟨g,0,none⟩),.string ⟨p.toArray⟩] w fun e w'=>e=.returned (.bool (Tm.done (X.map Qf) p))∧Below w.heap.size w w':=by
 have hl:=World.block_lt_of_cell? w _ hg;obtain⟨W1,hW1⟩:∃ W1,w.alloc (.cells #[.string ⟨p.toArray⟩] 9)=W1:=⟨_,rfl⟩;have y1:=(St.nil w).alloc 9 #[.string ⟨p.toArray⟩];rw[hW1] at y1;obtain⟨A,c,rfl,hc1,hc2,hr⟩:=h.below y1.below;have hg1:=(y1.below.cell (p:=⟨g,7,none⟩) hl).trans hg
 have k:=cfCa_spec 201 #[.pointer (some ⟨w.heap.size,0,none⟩)] (enters_of func201 (by kernel_rfl) rfl) A X.length c (fun j=>.int .i64 (Jt (xV X j))) (fun j=>.string ⟨(xV X j).path.toArray⟩) (fun j=>.int .i64 (xV X j).major) (fun j=>.int .i64 (xV X j).minor) (fun j=>.int .i64 (xV X j).patch) (fun j=>(xV X j).rv) (fun j=>.string ⟨(xV X j).arch.toArray⟩) (fun j=>.string ⟨(xV X j).iface.toArray⟩) (fun j=>.string ⟨(xV X j).cert.toArray⟩) (fun j=>.bool (xV X j).yank) (fun j=>(xV X j).path==p) W1 (Nat.le_trans hc1 hc2)
  (fun j hj=>by
    obtain⟨b,off,e,hb,hc⟩:=Dw hr hj;have e':xV X j=X[j]:=Uq hj;rw[e']
    exact⟨b,off,e,hb,hc⟩)
  (fun j W hj hb=>done1_spec (xV X j) _ _ W (by rw[show xV X j=X[j] from Uq hj];exact hX _ (List.getElem_mem hj)) ((hb.cell y1.blk.lt).trans (y1.blk.cell 0)))
 have hR:∀ b,Hh (fun j=>(xV X j).path==p) X.length b→b=Tm.done (X.map Qf) p:=fun b hb=>by have:=hb.list (L:=X) (q:=fun r=>r.path==p) (fun j hj=>by rw[show xV X j=X[j] from Uq hj]);rw[this];unfold Tm.done;rw[List.any_map];rfl
 obtain⟨N,hN⟩:∃ N,X.length=N:=⟨_,rfl⟩;rw[hN] at k hg1 hR;have HR:=Kd hR;have Y1:=Kd y1.below;clear hR hN y1 hr hc1 hc2 h hg;go_enter func144,ntmps144;go_wp2_with fail;refine k.mono ?_;rintro e w2 ⟨b,rfl,z2,hb⟩;obtain rfl:=HR.out b hb;have Z2:=Kd (Y1.out.trans (z2.mono Y1.out.size));clear k z2 hb;go_wp2;go_ret;exact⟨rfl,Z2.out⟩
theorem Ai (x:Zq) (pl:Int) (g:Nat) (F:Nat→Prop) (w:World) (hg:w.cell? ⟨g,0,none⟩=some (.int .i64 pl)) (hs:Qr w F x.2 x.1.q.set):
 Calls prog 95 #[.agg #[.string ⟨x.1.q.path.toArray⟩,x.2,.string ⟨x.1.path.toArray⟩,.int .i64 x.1.place,.int .i64 (x.1.number:Int)],.pointer (some ⟨g,0,none⟩)] w fun e w'=>e=.returned (.bool (!Tm.has x.1.q.set pl))∧Below w.heap.size w w':=by
 have hl:=World.block_lt_of_cell? w _ hg;obtain⟨⟨⟨q,s⟩,p,a,n⟩,v⟩:=x;dsimp only at hs ⊢;obtain⟨A,m,c,rfl⟩:=hs.shape;obtain⟨W1,hW1⟩:∃ W1,w.alloc (.cells #[.string ⟨q.toArray⟩,.slice A m c,.string ⟨p.toArray⟩,.int .i64 a,.int .i64 (n:Int)] 182)=W1:=⟨_,rfl⟩;have y1:=(St.nil w).alloc 182 #[.string ⟨q.toArray⟩,.slice A m c,.string ⟨p.toArray⟩,.int .i64 a,.int .i64 (n:Int)];rw[hW1] at y1;have f1:=y1.blk.cell 1;have hg1:=(y1.below.cell (p:=⟨g,0,none⟩) hl).trans hg;have kh:=Ys s _ F pl W1 (hs.below y1.below);have Y1:=Kd y1.below;clear y1 hs;go_enter func95,ntmps95;go_wp2_with fail;refine kh.mono ?_;rintro e w2 ⟨rfl,z2⟩;have Z2:=Kd (Y1.out.trans (z2.mono Y1.out.size));clear kh z2;go_wp2;go_ret;exact⟨rfl,Z2.out⟩
theorem Cr (Ms:List Zq) (pl:Int) (A:Option Addr) (c g:Nat) (F G:Nat→Prop) (w:World) (hg:w.cell? ⟨g,0,none⟩=some (.int .i64 pl)) (hc1:Ms.length≤c) (hc2:c≤maxLen) (hr:Z9 w F A (Ms.flatMap Hn)) (hs:∀ m∈Ms,Qr w G m.2 m.1.q.set):
 Calls prog 94 #[.slice A Ms.length c,.func (.func 95) #[] #[.pointer (some ⟨g,0,none⟩)]] w fun e w'=>Below w.heap.size w w'∧((e=.returned (.int .i64 (-1))∧(Ms.map Prod.fst).find? (fun n=>!Tm.has n.q.set pl)=none)∨∃(i:Nat) (hi:i<Ms.length),e=.returned (.int .i64 (i:Int))∧(Ms.map Prod.fst).find? (fun n=>!Tm.has n.q.set pl)=some Ms[i].1):=by
 have hl:=World.block_lt_of_cell? w _ hg;have hD:∀ j (hj:j<Ms.length),Ms.getD j (⟨⟨[],[]⟩,[],0,0⟩,.slice none 0 0)=Ms[j]:=fun j hj=>by rw[List.getD_eq_getElem?_getD,List.getElem?_eq_getElem hj,Option.getD_some]
 have k:=ixNe_spec 95 #[.pointer (some ⟨g,0,none⟩)] (enters_of func95 (by kernel_rfl) rfl) A Ms.length c (fun j=>.string ⟨(Ms.getD j (⟨⟨[],[]⟩,[],0,0⟩,.slice none 0 0)).1.q.path.toArray⟩) (fun j=>(Ms.getD j (⟨⟨[],[]⟩,[],0,0⟩,.slice none 0 0)).2) (fun j=>.string ⟨(Ms.getD j (⟨⟨[],[]⟩,[],0,0⟩,.slice none 0 0)).1.path.toArray⟩) (fun j=>.int .i64 (Ms.getD j (⟨⟨[],[]⟩,[],0,0⟩,.slice none 0 0)).1.place) (fun j=>.int .i64 ((Ms.getD j (⟨⟨[],[]⟩,[],0,0⟩,.slice none 0 0)).1.number:Int)) (fun j=>!Tm.has (Ms.getD j (⟨⟨[],[]⟩,[],0,0⟩,.slice none 0 0)).1.q.set pl) w (Nat.le_trans hc1 hc2)
  (fun j hj=>by
    obtain⟨b,off,e,hb,hc⟩:=Sz hr hj;rw[hD j hj]
    exact⟨b,off,e,hb,hc⟩)
  (fun j W hj hb=>by
    rw[hD j hj]
    exact Ai Ms[j] pl g G W ((hb.cell (p:=⟨g,0,none⟩) hl).trans hg) ((hs _ (List.getElem_mem hj)).below hb))
 refine k.mono ?_;rintro e w' ⟨j,rfl,z,hj⟩;refine⟨z,?_⟩;rcases IxP.find (L:=Ms) (q:=fun m=>!Tm.has m.1.q.set pl) hj (fun j hj=>by rw[hD j hj]) with⟨h1,h2⟩|⟨i,hi,h1,h2,-⟩
 ·left
  subst h1;refine⟨rfl,?_⟩;rw[List.find?_map,show ((fun n:Tm.Zi=>!Tm.has n.q.set pl) ∘ Prod.fst)=(fun m:Zq=>!Tm.has m.1.q.set pl) from rfl,h2];rfl
 ·right
  subst h1;refine⟨i,hi,rfl,?_⟩;rw[List.find?_map,show ((fun n:Tm.Zi=>!Tm.has n.q.set pl) ∘ Prod.fst)=(fun m:Zq=>!Tm.has m.1.q.set pl) from rfl,h2];rfl
def DerRd (w:World) (F:Nat→Prop) (dA:Option Addr) (D:List (List Tm.Qu)):Prop:=∀ k,k<D.length→∃(db:Nat) (A:Option Addr) (n c:Nat),dA=some ⟨db,0,none⟩∧db<w.heap.size∧w.cell? ⟨db,k,none⟩=some (.slice A n c)∧Zs w F (.slice A n c) (D.getD k [])
def entD (D:List (List Tm.Qu)) (S:List Zy):Option Nat:=D.findIdx? fun l=>entS l S
theorem Dk {α:Type} (p:α→Bool):∀(L:List α) (k:Nat),k≤L.length→(∀ j (hj:j<L.length),j<k→p L[j]=false)→L.findIdx? p=((L.drop k).findIdx? p).map (·+k)
 |L,0,_,_=>by simp
 |[],k+1,h,_=>by simp at h
 |a::L,k+1,h,hp=>by have h0:p a=false:=hp 0 (by simp) (Nat.succ_pos _);rw[List.findIdx?_cons,if_neg (by rw[h0];exact Bool.false_ne_true),List.drop_succ_cons,Dk p L k (by simpa using h) (fun j hj hk=>hp (j+1) (by simpa using hj) (by omega)),Option.map_map];rfl
theorem entD_spec (D:List (List Tm.Qu)) (S:List Zy) (u:Value) (F G:Nat→Prop) (dA:Option Addr) (dC g:Nat) (w:World) (hg:w.cell? ⟨g,4,none⟩=some (.slice dA D.length dC)) (hd:DerRd w F dA D) (h2:Xz w G u S) (hS:∀ s∈S,okS s) (hl:D.length≤1048576):
 Calls prog 98 #[.pointer (some ⟨g,0,none⟩),u] w fun e w'=>e=.returned (match entD D S with|none=>.tuple #[.int .i64 0,.bool false]|some i=>.tuple #[.int .i64 (i:Int),.bool true])∧Below w.heap.size w w':=by
 obtain⟨A2,n2,c2,rfl⟩:∃ A n c,u=.slice A n c:=by obtain⟨A,c,e,-⟩:=h2;exact⟨A,_,c,e⟩
 obtain⟨N,hN⟩:∃ N,D.length=N:=⟨_,rfl⟩;obtain⟨res,hres⟩:∃ res,entD D S=res:=⟨_,rfl⟩;rw[hres];rw[hN] at hg hl;have hNm:N≤9223372036854775807:=Nat.le_trans hl (by decide);have HM:=Kd5 hN hd h2 hS hres;clear hN hd h2 hS hres hl;go_enter func98,ntmps98;go_wp2
 go_loopw [13] (fun i wr=>∃ k:Nat,k≤N∧i=.int .i64 k∧Hid (Below w.heap.size w wr)∧Hid (∀ j,j<k→entS (D.getD j []) S=false)) (fun i _=>N-(intOf i).toNat)
 case atStart=>exact⟨0,Nat.zero_le _,rfl,Kd (Below.refl _ _),Kd fun j hj=>absurd hj (Nat.not_lt_zero _)⟩
 case round=>
  obtain⟨k,hk,rfl,hb,hp⟩:=hrel;obtain⟨hN,hd,h2,hS,hres⟩:=HM.out;have hres2:res=((D.drop k).findIdx? fun l=>entS l S).map (·+k):=by rw[←hres];refine Dk _ D k (by omega) fun j hj hjk=>?_;have:=hp.out j hjk;rw[Tm.Kw _ _ hj] at this;exact this
  by_cases hlt:k<N
  ·have hkD:k<D.length:=by omega
   obtain⟨db,A,n,c,rfl,hdb,c0,ht⟩:=hd k hkD;rw[←hb.out.cell (p:=⟨db,k,none⟩) hdb] at c0;have ht:=ht.below hb.out;rw[List.drop_eq_getElem_cons hkD,List.findIdx?_cons,←Tm.Kw D k hkD] at hres2;have ke:=Lc (D.getD k []) S _ _ _ _ wr ht (h2.below hb.out) hS;obtain⟨hv,hhv⟩:∃ b,entS (D.getD k []) S=b:=⟨_,rfl⟩;rw[hhv] at ke hres2;have i0:(0:Int)≤(k:Int):=Int.natCast_nonneg _;have i1:(k:Int)<(N:Int):=Int.ofNat_lt.2 hlt;have HP:=Kd5 hp.out hlt hb.out hhv hres2;clear hN hd h2 hS hres ht hp hb hkD hhv hres2 hdb;go_wp2_with fail;refine ke.mono ?_;rintro e w3 ⟨rfl,z3⟩;have B3:=Kd (HP.out.2.2.1.trans (z3.mono HP.out.2.2.1.size));clear ke z3
   cases hv with
   | true=>
     obtain rfl:res=some k:=by rw[HP.out.2.2.2.2,if_pos rfl,Option.map_some,Nat.zero_add]
     go_wp2;go_ret2;exact⟨rfl,B3.out⟩
   | false=>
     go_wp2
     go_roundw
     case rel=>
      refine⟨k+1,Nat.succ_le_of_lt HP.out.2.1,by go_num,B3,Kd fun j hj=>?_⟩;rcases Nat.lt_succ_iff_lt_or_eq.1 hj with h|rfl
      ·exact HP.out.1 j h
      ·exact HP.out.2.2.2.1
     case measure=>have:=HP.out.2.1;simp[intOf];omega
  ·obtain rfl:k=N:=Nat.le_antisymm hk (Nat.le_of_not_lt hlt)
   have hge:decide ((k:Int)<(k:Int))=false :=(by simp);obtain rfl:res=none :=(by rw[hres2,List.drop_eq_nil_of_le (by omega)];rfl);go_wp2;go_ret2;exact⟨rfl,hb.out⟩
theorem Ku:(prog.info? 175).map (fun i=>(i.zero,i.size,i.bytes))=some (some (.agg #[.int .i64 0,.string ⟨#[]⟩,.int .i64 0,.int .i64 0,.int .i64 0,.slice none 0 0,.string ⟨#[]⟩,.string ⟨#[]⟩,.string ⟨#[]⟩,.bool false]),10,128):=by kernel_rfl
theorem info_nd:(prog.info? 182).map (fun i=>(i.zero,i.size,i.bytes))=some (some (.agg #[.string ⟨#[]⟩,.slice none 0 0,.string ⟨#[]⟩,.int .i64 0,.int .i64 0]),5,72):=by kernel_rfl
theorem N8 (A:Option Addr) (n c:Nat) (xs:List Value) (F:Nat→Prop) (w:World) (hr:Z9 w F A xs) (hone:∀ u∈xs,u.oneCell'=true) (hfl:xs.length=n*10) (hL:n≤1048576):
 Calls prog 100 #[.slice A n c] w fun e w'=>∃ A' c',e=.returned (.slice A' n c')∧St w.heap.size w w' [Qh 175 10 (.slice A' n c') n xs]:=by
 have kn:=fun w=>Lib.run_eql_slice_nil (P:=prog) w 118 175 A n c 0 0 underlying118
 cases A with
 | none=>
   obtain rfl:xs=[]:=by
    rcases hr with hr|⟨b,off,e,-⟩
    ·exact hr
    ·cases e
   obtain rfl:n=0:=by rw[List.length_nil] at hfl;omega
   clear hr hone hL hfl;go_enter func100,ntmps100;go_wp2;go_ret;exact⟨none,0,rfl,(St.nil w).new_own (Below.refl _ w) ⟨rfl,.inl ⟨rfl,rfl⟩⟩⟩
 | some a=>
   have y0:St w.heap.size w (w.alloc (.cells #[] 175)) [Qh 175 10 (.slice (some ⟨w.heap.size,0,none⟩) 0 0) 0 []]:=(St.nil w).new_own (b1 w _) (World.ownsRow_lit w #[] 0 (Nat.le_refl _) (by decide) rfl)
   have hnews:∀ j u,xs[j]?=some u→(w.alloc (.cells #[] 175)).cell? (a.add j)=some u:=fun j u hu=>by
    rcases hr with hr|⟨b,off,e,-,hb,hc⟩
    ·rw[hr] at hu
     cases hu
    ·obtain rfl:=Option.some.inj e
     obtain⟨hj,rfl⟩:=List.getElem?_eq_some_iff.1 hu;rw[Addr.add_lit,(b1 w _).cell hb];exact hc j hj
   have Y0:=Kd y0;have HN:=Kd hnews;have HO:=Kd hone;have q1:0+n≤maxLen :=(by unfold maxLen;omega);have q2:(0+n)*128≤140737488355328 :=(by omega);clear hr y0 hnews hone;go_enter func100,ntmps100;go_wp2_with (at_builtin;go_must (refine W9 118 Y0.out underlying118 Ku rfl (by decide) rfl _ _ rfl rfl a n c xs rfl hfl HN.out HO.out q1 q2 ?_);intro v1 w1 h1);have h1:St w.heap.size w w1 [Qh 175 10 v1 n xs] :=(by simpa using h1);obtain⟨A1,c1,rfl,-,-⟩:=Q4 h1.own;have H1:=Kd h1;clear h1;go_wp2;go_ret;exact⟨A1,c1,rfl,H1.out⟩
theorem Hz (A:Option Addr) (n c:Nat) (xs:List Value) (F:Nat→Prop) (w:World) (hr:Z9 w F A xs) (hone:∀ u∈xs,u.oneCell'=true) (hfl:xs.length=n*4) (hL:n≤1048576):
 Calls prog 58 #[.slice A n c] w fun e w'=>∃ A' c',e=.returned (.slice A' n c')∧St w.heap.size w w' [Qh 38 4 (.slice A' n c') n xs]:=by
 have kn:=fun w=>Lib.run_eql_slice_nil (P:=prog) w 30 38 A n c 0 0 underlying30
 cases A with
 | none=>
   obtain rfl:xs=[]:=by
    rcases hr with hr|⟨b,off,e,-⟩
    ·exact hr
    ·cases e
   obtain rfl:n=0:=by rw[List.length_nil] at hfl;omega
   clear hr hone hL hfl;go_enter func58,ntmps58;go_wp2;go_ret;exact⟨none,0,rfl,(St.nil w).new_own (Below.refl _ w) ⟨rfl,.inl ⟨rfl,rfl⟩⟩⟩
 | some a=>
   have y0:St w.heap.size w (w.alloc (.cells #[] 38)) [Qh 38 4 (.slice (some ⟨w.heap.size,0,none⟩) 0 0) 0 []]:=(St.nil w).new_own (b1 w _) (World.ownsRow_lit w #[] 0 (Nat.le_refl _) (by decide) rfl)
   have hnews:∀ j u,xs[j]?=some u→(w.alloc (.cells #[] 38)).cell? (a.add j)=some u:=fun j u hu=>by
    rcases hr with hr|⟨b,off,e,-,hb,hc⟩
    ·rw[hr] at hu
     cases hu
    ·obtain rfl:=Option.some.inj e
     obtain⟨hj,rfl⟩:=List.getElem?_eq_some_iff.1 hu;rw[Addr.add_lit,(b1 w _).cell hb];exact hc j hj
   have Y0:=Kd y0;have HN:=Kd hnews;have HO:=Kd hone;have q1:0+n≤maxLen :=(by unfold maxLen;omega);have q2:(0+n)*40≤140737488355328 :=(by omega);clear hr y0 hnews hone;go_enter func58,ntmps58;go_wp2_with (at_builtin;go_must (refine W9 30 Y0.out underlying30 Vx rfl (by decide) rfl _ _ rfl rfl a n c xs rfl hfl HN.out HO.out q1 q2 ?_);intro v1 w1 h1);have h1:St w.heap.size w w1 [Qh 38 4 v1 n xs] :=(by simpa using h1);obtain⟨A1,c1,rfl,-,-⟩:=Q4 h1.own;have H1:=Kd h1;clear h1;go_wp2;go_ret;exact⟨A1,c1,rfl,H1.out⟩
end Go.Proofs.YtiefajiebebgoaaGreatDoor
