/-
  next of package solver,in the program. Conditions: numbers that fit.
-/
import Derived.Test.YtiefajiebebgoaaGreatDoorQHd
import Derived.Test.YtiefajiebebgoaaGreatDoorQUbV
set_option maxRecDepth 100000
set_option maxHeartbeats 4000000
open Go.Proofs.Tryz
namespace Go.Proofs.YtiefajiebebgoaaGreatDoor
set_option linter.unusedVariables false
open Go.RowKit Go.Shelf
attribute [local go_sem] Oper.semAt_some
theorem needs_spec (g:Nat) (w:World):Calls prog 143 #[.pointer (some ⟨g,0,none⟩)] w fun e w'=>e=.returned (.func (.func 199) #[] #[.pointer (some ⟨w.heap.size,0,none⟩)])∧w'=w.alloc (.cells #[.pointer (some ⟨g,0,none⟩)] 110):=by go_enter func143,ntmps143;go_wp2;go_ret;exact⟨rfl,rfl⟩
def Xq (dec:List Tm.Qp) (a:Tm.Qk×List Zq) (x:Zq):Tm.Qk×List Zq:=
 if Tm.done dec x.1.q.path=true∨(a.2≠[]∧Tm.Jr a.1 x.1.q.path=true) then a else (x.1.q.path,(if a.2≠[]∧Tm.Jr x.1.q.path a.1=true then [] else a.2)++[x])
theorem stepV_fst (dec:List Tm.Qp) (a:Tm.Qk×List Zq) (x:Zq):((Xq dec a x).1,(Xq dec a x).2.map Prod.fst)=Tm.Hk dec (a.1,a.2.map Prod.fst) x.1:=by
 unfold Xq Tm.Hk;simp only[ne_eq,List.map_eq_nil_iff]
 split
 ·rfl
 ·split
  ·rfl
  ·rw[List.map_append]
   rfl
theorem Px (dec:List Tm.Qp):∀(L:List Zq) (a:Tm.Qk×List Zq),((L.foldl (Xq dec) a).1,(L.foldl (Xq dec) a).2.map Prod.fst)=(L.map Prod.fst).foldl (Tm.Hk dec) (a.1,a.2.map Prod.fst)
 |[],a=>rfl
 |x::L,a=>by rw[List.foldl_cons,List.map_cons,List.foldl_cons,Px dec L,stepV_fst]
theorem Pv (dec:List Tm.Qp):∀(L:List Zq) (a:Tm.Qk×List Zq) (x:Zq),x∈(L.foldl (Xq dec) a).2→x∈L∨x∈a.2
 |[],a,x,h=>.inr h
 | y :: L,a,x,h=>by
   rcases Pv dec L _ x h with h|h
   ·exact .inl (List.mem_cons_of_mem _ h)
   ·unfold Xq at h
    split at h
    ·exact .inr h
    ·rcases List.mem_append.1 h with h|h
     ·split at h
      ·cases h
      ·exact .inr h
     ·exact .inl (by rw[List.mem_singleton.1 h];exact List.mem_cons_self ..)
theorem Pw (dec:List Tm.Qp):∀(L:List Zq) (a:Tm.Qk×List Zq),(L.foldl (Xq dec) a).2.length≤a.2.length+L.length
 |[],a=>Nat.le_refl _
 | y :: L,a=>by
   have h1:=Pw dec L (Xq dec a y)
   have h2:(Xq dec a y).2.length≤a.2.length+1:=by
    unfold Xq
    split
    ·exact Nat.le_succ _
    ·dsimp only
     rw[List.length_append]
     split
     ·simp
     ·simp
   rw[List.foldl_cons,List.length_cons];omega
theorem heap_own {β:Type} (B:Nat) (t:TypeId) (cs:β→Array Value):Own (fun (s:β) W=>W.heap[B]?=some (Obj.cells (cs s) t (0,0))):=fun s X Y row hs hg hrow =>(hg.block B (Array.getElem?_eq_some_iff.1 hs).1 (fun e'=>by obtain⟨o,ho,hc⟩:=hrow B e'.symm;rw[show X.heap[B]?=_ from hs] at ho;cases ho;cases hc)).trans hs
theorem Ed (dec:List Tm.Qp) (p pt:Tm.Qk) (L:List Zq) (x:Zq) (hpt:x.1.q.path=pt) (hd:Tm.done dec x.1.q.path=false) (hc:L=[]∨Tm.Jr p pt=false):Xq dec (p,L) x=(pt,(if L≠[]∧Tm.Jr pt p=true then [] else L)++[x]):=by
 subst hpt;unfold Xq;rw[if_neg];rintro (e|e)
 ·rw[hd] at e
  cases e
 ·rcases hc with h|h
  ·exact e.1 h
  ·rw[h] at e
   cases e.2
def Bf (Mr:List We) (Ds:List Bj) (Vu:List (NdT Mr Ds)):Tm.Qk×List Zq:=(Vu.map Subtype.val).foldl (Xq ((Ds.map Prod.fst).map Qf)) ([],[])
theorem accV_snoc (Mr:List We) (Ds:List Bj) (Vu:List (NdT Mr Ds)) (x:NdT Mr Ds):Bf Mr Ds (Vu++[x])=Xq ((Ds.map Prod.fst).map Qf) (Bf Mr Ds Vu) x.1:=by unfold Bf;rw[List.map_append,List.foldl_append];rfl
def U7 (w:World) (g q0 q1 q2 q3:Nat) (p:Tm.Qk) (L:List Zq) (W:World):Prop:=
 (Boxed W q0 110 (.pointer (some ⟨g,0,none⟩))∧Boxed W q3 110 (.pointer (some ⟨g,0,none⟩))∧Boxed W q1 9 (.string ⟨p.toArray⟩)∧(∃ v,Boxed W q2 177 v∧W.ownsRow w.heap.size 182 5 v L.length (L.flatMap Hn)∧True))∧Below w.heap.size w W
def He (w:World) (g q0 q1 q2 q3:Nat) (Mr:List We) (Ds:List Bj) (Vu:List (NdT Mr Ds)) (W:World):Prop:=U7 w g q0 q1 q2 q3 (Bf Mr Ds Vu).1 (Bf Mr Ds Vu).2 W
theorem En (w:World) (B g q0 q1 q2 q3:Nat) (Mr:List We) (Ds:List Bj) (hB:w.heap.size≤B):OwnFrom B (He w g q0 q1 q2 q3 Mr Ds):=
 OwnFrom.and (Own.from (fun s X Y row hs hg hr=>⟨boxed_own q0 _ (fun _:List (NdT Mr Ds)=>_) s X Y row hs.1 hg hr,boxed_own q3 _ (fun _:List (NdT Mr Ds)=>_) s X Y row hs.2.1 hg hr,boxed_own q1 _ (fun s:List (NdT Mr Ds)=>Value.string ⟨(Bf Mr Ds s).1.toArray⟩) s X Y row hs.2.2.1 hg hr,holdsRow_own w.heap.size q2 177 182 5 (fun s:List (NdT Mr Ds)=>(Bf Mr Ds s).2.length) (fun s=>(Bf Mr Ds s).2.flatMap Hn) (fun _ _=>True) s X Y row hs.2.2.2 hg hr⟩) B) (ownFrom_below (Nat.le_refl _) hB)
theorem below_heap {W W':World} (h:Below W.heap.size W W') {k:Nat} (hk:k<W.heap.size):W'.heap[k]?=W.heap[k]?:=(Qm.of_below (F:=fun _=>True) h k trivial hk).2
theorem Jh {W W':World} (h:Below W.heap.size W W') {k:Nat} {o:Obj} (hk:W.heap[k]?=some o):W'.heap[k]?=some o:=(below_heap h (Array.getElem?_eq_some_iff.1 hk).1).trans hk
theorem U7.below {w W W':World} {g q0 q1 q2 q3:Nat} {p:Tm.Qk} {L:List Zq} (h:U7 w g q0 q1 q2 q3 p L W) (hb:Below W.heap.size W W'):U7 w g q0 q1 q2 q3 p L W':=by
 obtain⟨⟨h0,h3,h1,v,h2,hr,-⟩,hB⟩:=h;refine⟨⟨Jh hb h0,Jh hb h3,Jh hb h1,v,Jh hb h2,⟨hr.1,?_⟩,trivial⟩,hB.trans (hb.mono hB.size)⟩;rcases hr.2 with h|⟨b,cap,cur,e,g1,g2,g3⟩
 ·exact .inl h
 ·exact .inr ⟨b,cap,cur,e,g1,Jh hb g2,g3⟩
theorem Wj {W W':World} (B:Nat) (h:Below W.heap.size W W'):KeepsFrom B W W':=⟨h.size,fun k o _ hk _=>Jh h hk⟩
theorem Uy {w W W':World} {q g:Nat} (h:Below W.heap.size W W'):Mk w q g W W':=⟨fun k=>⟨k.1.trans (h.mono k.1.size),(h.cell (p:=⟨q,0,none⟩) (World.block_lt_of_cell? W _ k.2)).trans k.2⟩,fun k cs fr e=>Jh h e⟩
structure Four (w:World) (q0 q1 q2 q3:Nat):Prop where
 lo:w.heap.size≤q0∧w.heap.size≤q1∧w.heap.size≤q2∧w.heap.size≤q3
 ne:q0≠q1∧q0≠q2∧q3≠q1∧q3≠q2∧q1≠q2
theorem Pm (B:Nat) {W:World} {b:Nat} (v:Value):KeepsFrom B W (W.setCell ⟨b,0,none⟩ v):=(KeepsOthers.setCell W _ v).from B
theorem Co {w W:World} {q g b:Nat} {t:TypeId} {u:Value} (v:Value) (hb:Boxed W b t u) (hlo:w.heap.size≤b) (hne:q≠b) (ht:t≠175):Mk w q g W (W.setCell ⟨b,0,none⟩ v):=
 ⟨fun h=>⟨h.1.setCell (p:=⟨b,0,none⟩) hlo v,(World.cell?_of_block (a:=⟨q,0,none⟩) (Below.heap_setCell W ⟨b,0,none⟩ v q hne)).trans h.2⟩,fun k cs fr e=>by
   have hk:k≠b:=fun he=>by subst he;rw[show W.heap[k]?=_ from hb] at e;injection e with e;injection e with _ e;exact ht e
   rw[Below.heap_setCell W ⟨b,0,none⟩ v k hk]
   exact e⟩
section
variable {w W:World} {g q0 q1 q2 q3:Nat} {p:Tm.Qk} {L:List Zq}
theorem U7.setPath (h:U7 w g q0 q1 q2 q3 p L W) (h4:Four w q0 q1 q2 q3) (B:Nat) (p':Tm.Qk):KeepsFrom B W (W.setCell ⟨q1,0,none⟩ (.string ⟨p'.toArray⟩))∧Mk w q3 g W (W.setCell ⟨q1,0,none⟩ (.string ⟨p'.toArray⟩))∧U7 w g q0 q1 q2 q3 p' L (W.setCell ⟨q1,0,none⟩ (.string ⟨p'.toArray⟩)):=by obtain⟨⟨h0,h3,h1,v,h2,hr,-⟩,hB⟩:=h;obtain⟨⟨l0,l1,l2,l3⟩,n1,n2,n3,n4,n5⟩:=h4;refine⟨Pm B _,Co _ h1 l1 n3 (by decide),⟨⟨h0.other n1 _,h3.other n3 _,h1.set _,v,h2.other n5.symm _,hr.kept (grownBy_setCell' W q1 _) (.inr (h1.not_row (by decide) hr).symm),trivial⟩,hB.setCell (p:=⟨q1,0,none⟩) l1 _⟩⟩
theorem U7.setNil (h:U7 w g q0 q1 q2 q3 p L W) (h4:Four w q0 q1 q2 q3) (B:Nat):KeepsFrom B W (W.setCell ⟨q2,0,none⟩ (.slice none 0 0))∧Mk w q3 g W (W.setCell ⟨q2,0,none⟩ (.slice none 0 0))∧U7 w g q0 q1 q2 q3 p [] (W.setCell ⟨q2,0,none⟩ (.slice none 0 0)):=by obtain⟨⟨h0,h3,h1,v,h2,hr,-⟩,hB⟩:=h;obtain⟨⟨l0,l1,l2,l3⟩,n1,n2,n3,n4,n5⟩:=h4;exact⟨Pm B _,Co _ h2 l2 n4 (by decide),⟨⟨h0.other n2 _,h3.other n4 _,h1.other n5 _,_,h2.set _,World.ownsRow_nil _ _ _ _,trivial⟩,hB.setCell (p:=⟨q2,0,none⟩) l2 _⟩⟩
theorem U7.push {w3:World} {v v':Value} {x:Zq} {tmp:Obj} (h:U7 w g q0 q1 q2 q3 p L W) (h4:Four w q0 q1 q2 q3) (B:Nat) (hv:Boxed W q2 177 v) (hown':w3.ownsRow w.heap.size 182 5 v' (L++[x]).length ((L++[x]).flatMap Hn)) (hgrow:(W.alloc tmp).grownBy w3 v.ownBlock):
 KeepsFrom B W (w3.setCell ⟨q2,0,none⟩ v')∧Mk w q3 g W (w3.setCell ⟨q2,0,none⟩ v')∧U7 w g q0 q1 q2 q3 p (L++[x]) (w3.setCell ⟨q2,0,none⟩ v'):=by
 obtain⟨⟨h0,h3,h1,u,h2,hr,-⟩,hB⟩:=h;obtain⟨⟨l0,l1,l2,l3⟩,n1,n2,n3,n4,n5⟩:=h4;obtain rfl:u=v:=by have:=(show W.heap[q2]?=_ from h2).symm.trans hv;injection this with this;injection this with this;simpa using this
 obtain⟨k1,k2,k3,k4,k5⟩:=h2.appended (by decide) hr hB.size l2 hown' hgrow;have hk:∀ {b:Nat} {t:TypeId} {z:Value},Boxed W b t z→t≠182→b≠q2→Boxed (w3.setCell ⟨q2,0,none⟩ v') b t z:=fun hb ht hne=>((hb.alloc tmp).kept hgrow (hb.not_row ht hr)).other hne _;refine⟨k4.from B,⟨fun hx=>⟨hx.1.trans k5,(hk h3 (by decide) n4).cell⟩,fun k cs fr e=>?_⟩,⟨⟨hk h0 (by decide) n2,hk h3 (by decide) n4,hk h1 (by decide) n5,_,k2,k3,trivial⟩,hB.trans k5⟩⟩;have hne:k≠q2:=fun he=>by subst he;rw[show W.heap[k]?=_ from h2] at e;injection e with e;injection e with _ e;exact absurd e (by decide)
 have hkr:some k≠u.ownBlock:=by
  rcases hr.2 with⟨rfl,_⟩|⟨b,cap,cur,rfl,_,hgb,_⟩
  ·simp[Value.ownBlock]
  ·intro e'
   obtain rfl:k=b:=by simpa [Value.ownBlock] using e'
   rw[hgb] at e;injection e with e;injection e with _ e;exact absurd e (by decide)
 have hlt:=(Array.getElem?_eq_some_iff.1 e).1;rw[Below.heap_setCell w3 ⟨q2,0,none⟩ v' k hne,hgrow.block k (by simp;omega) hkr,Below.heap_alloc W tmp k hlt];exact e
end
theorem rd_of_owns {w:World} {base:Nat} {e:TypeId} {size n c:Nat} {A:Option Addr} {xs:List Value} (h:w.ownsRow base e size (.slice A n c) n xs):Z9 w (fun k=>base≤k) A xs:=by
 rcases h.2 with⟨e1,h0⟩|⟨b,cap,cur,e1,hb,hg,h1,h2,h3,h4⟩
 ·refine .inl (List.eq_nil_of_length_eq_zero ?_)
  rw[h.1,h0,Nat.zero_mul]
 ·obtain⟨rfl,-,-⟩:=Value.slice.inj e1
  refine .inr ⟨b,0,rfl,hb,(Array.getElem?_eq_some_iff.1 hg).1,fun i hi=>?_⟩;rw[Nat.zero_add,(Z8 hg i).1,←Array.getElem?_toList];have:=List.getElem?_eq_getElem hi;rw[←this,←h4,List.getElem?_take_of_lt];rw[←h.1];exact hi
theorem Na (w:World) (a b c d e:Value) (t:TypeId):∀ j u,[a,b,c,d,e][j]?=some u→(w.alloc (Obj.cells #[a,b,c,d,e] t)).cell? ((⟨w.heap.size,0,none⟩:Addr).add j)=some u:=by
 intro j u hj;have:=(Z8 (World.alloc_heap_new w (Obj.cells #[a,b,c,d,e] t)) j).1;rw[Addr.add_lit,Nat.zero_add,this]
 match j,hj with
 |0,hj=>exact hj
 |1,hj=>exact hj
 |2,hj=>exact hj
 |3,hj=>exact hj
 |4,hj=>exact hj
def NextA (w:World) (g q0 q1 q2 q3:Nat) (x:Zq) (a':Act) (W:World):Prop:=∃ B6,q3<B6∧W.heap[B6]?=some (Obj.cells #[.string ⟨x.1.q.path.toArray⟩,x.2,.string ⟨x.1.path.toArray⟩,.int .i64 x.1.place,.int .i64 (x.1.number:Int)] 182 (0,0))∧a'={ tmps:=#[.pointer (some ⟨g,0,none⟩),.pointer (some ⟨q0,0,none⟩),.string ⟨#[]⟩,.slice none 0 0,.pointer (some ⟨q1,0,none⟩),.pointer (some ⟨q2,0,none⟩),.pointer (some ⟨B6,0,none⟩),.pointer (some ⟨g,0,none⟩),.func (.func 199) #[] #[.pointer (some ⟨q3,0,none⟩)],M9 x,undef,undef,undef,undef,undef,undef,undef,undef,undef,undef,undef,undef,undef,undef,undef,undef,undef,undef,undef,undef,undef,undef,undef,undef,undef,undef,undef,undef,undef,undef,undef,undef,undef,undef,undef,undef],defers:=[] }
theorem next_spec (w:World) (g:Nat) (Mr:List We) (Ds:List Bj) (rA:Option Addr) (rC:Nat) (dA:Option Addr) (dC:Nat) (F:Nat→Prop) (hm:NdMem w g Mr Ds rA rC dA dC) (hd1:Ds.length≤dC) (hd2:dC≤maxLen) (hset:∀ x∈J9 Mr Ds,Qr w F x.2 x.1.q.set) (hL:(J9 Mr Ds).length≤1500000000000) (hrq:∀ d∈Ds,d.2.map Prod.fst=d.1.reqs):
 Calls prog 93 #[.pointer (some ⟨g,0,none⟩)] w fun e w'=>Below w.heap.size w w'∧∃(A:Option Addr) (c:Nat) (Ms:List Zq) (p:Tm.Qk),e=.returned (.tuple #[.string ⟨p.toArray⟩,.slice A Ms.length c])∧(p,Ms.map Prod.fst)=Tm.next (Mr.map Prod.fst) ((Ds.map Prod.fst).map Qf)∧Ms.length≤c∧c≤maxLen∧Z9 w' (fun k=>w.heap.size≤k) A (Ms.flatMap Hn)∧∀ x∈Ms,x∈J9 Mr Ds:=by
 refine(callsIn_wide (n:=6)).1 ?_;refine callsIn_of_wp_marks func93 rfl trivial ?_ rfl;simp only[ntmps93,List.size_toArray,List.length_cons,List.length_nil,Nat.reduceAdd,Nat.reduceSub,Array.replicate_succ,Array.replicate_zero,List.push_toArray,List.append_toArray,List.nil_append,List.cons_append]
 gi_wp2_with (refine⟨trivial,?_⟩;gi_at_call 143;refine(callsIn_wide.2 (needs_spec g _)).mono ?_;rintro e w' ⟨rfl,rfl⟩)
 obtain⟨W0,hW0⟩:∃ W0,(((w.alloc (Obj.cells #[Value.pointer (some ⟨g,0,none⟩)] 110)).alloc (Obj.cells #[Value.string ⟨#[]⟩] 9)).alloc (Obj.cells #[Value.slice none 0 0] 177)).alloc (Obj.cells #[Value.pointer (some ⟨g,0,none⟩)] 110)=W0:=⟨_,rfl⟩;have hs0:W0.heap.size=w.heap.size+4:=by rw[←hW0];simp
 have hBw:Below w.heap.size w W0:=by rw[←hW0];exact((((Below.refl _ w).alloc (Nat.le_refl _) _).alloc (by simp) _).alloc (by simp;omega) _).alloc (by simp;omega) _
 have hx0:Boxed W0 w.heap.size 110 (.pointer (some ⟨g,0,none⟩)):=by rw[←hW0];exact(((Boxed.new w _ _).alloc _).alloc _).alloc _
 have hx1:Boxed W0 (w.heap.size+1) 9 (.string ⟨#[]⟩):=by
  rw[←hW0];have:=(((Boxed.new (w.alloc (Obj.cells #[Value.pointer (some ⟨g,0,none⟩)] 110)) 9 (.string ⟨#[]⟩)).alloc (Obj.cells #[Value.slice none 0 0] 177)).alloc (Obj.cells #[Value.pointer (some ⟨g,0,none⟩)] 110))
  rwa [World.size_alloc] at this
 have hx2:Boxed W0 (w.heap.size+2) 177 (.slice none 0 0):=by
  rw[←hW0];have:=((Boxed.new ((w.alloc (Obj.cells #[Value.pointer (some ⟨g,0,none⟩)] 110)).alloc (Obj.cells #[Value.string ⟨#[]⟩] 9)) 177 (.slice none 0 0)).alloc (Obj.cells #[Value.pointer (some ⟨g,0,none⟩)] 110))
  rwa [World.size_alloc,World.size_alloc] at this
 have hx3:Boxed W0 (w.heap.size+3) 110 (.pointer (some ⟨g,0,none⟩)):=by
  rw[←hW0];have:=Boxed.new (((w.alloc (Obj.cells #[Value.pointer (some ⟨g,0,none⟩)] 110)).alloc (Obj.cells #[Value.string ⟨#[]⟩] 9)).alloc (Obj.cells #[Value.slice none 0 0] 177)) 110 (.pointer (some ⟨g,0,none⟩))
  rwa [World.size_alloc,World.size_alloc,World.size_alloc] at this
 rw[hW0];obtain⟨q0,hq0⟩:∃ q,w.heap.size=q:=⟨_,rfl⟩;obtain⟨q1,hq1⟩:∃ q,q0+1=q:=⟨_,rfl⟩;obtain⟨q2,hq2⟩:∃ q,q1+1=q:=⟨_,rfl⟩;obtain⟨q3,hq3⟩:∃ q,q2+1=q:=⟨_,rfl⟩;rw[hq0,show q0+3=q3 by omega] at hx3;rw[hq0,show q0+2=q2 by omega] at hx2;rw[hq0,show q0+1=q1 by omega] at hx1;have hx0':Boxed W0 q0 110 (.pointer (some ⟨g,0,none⟩)):=hq0▸hx0;clear hx0;have e3:w.heap.size+1+1+1=q3:=by omega
 have e2:w.heap.size+1+1=q2:=by omega
 have e1:w.heap.size+1=q1:=by omega
 rw[e3,e2,e1,hq0];have hstops:=O6 (6-1) (by decide) w W0 q3 g Mr Ds rA rC dA dC hm ⟨hBw,hx3.cell⟩;have HQ:=Kd5 hq0 hq1 hq2 hq3 hs0;have HM:=Kd5 hm hd1 hd2 hset hL;have HW:=Kd hW0;have hst:Hid (He w g q0 q1 q2 q3 Mr Ds [] W0):=Kd ⟨⟨hx0',hx3,hx1,.slice none 0 0,hx2,World.ownsRow_nil _ _ _ _,trivial⟩,hBw⟩;clear hq1 hq2 hq3 hs0 hm hd1 hd2 hset hL hW0 hx0' hx3 hx1 hx2 hBw e1 e2 e3
 refine wpIn_rangeFunc_ownH (Kp:=Mk w q3 g) rfl (by decide) (gf:=199) (lb:=#[.pointer (some ⟨q3,0,none⟩)]) rfl trivial (enters_of func199 (by kernel_rfl) rfl)
  hstops (fun h k=>h.trans k) ?kb (Below.refl _ _) (fun _=>rfl) (He w g q0 q1 q2 q3 Mr Ds) (fun _ _ _=>False)
  (En w _ g q0 q1 q2 q3 Mr Ds (by have:=HQ.out;omega)) (fun _ _ _ _ _ hs _ _=>hs.elim) hst.out (fun x=>NextA w g q0 q1 q2 q3 x.1) ?ax ?assign ?body ?done ?stop
 case kb=>
  intro W l o o' hl ho hc hk;have hq:=HQ.out;refine⟨fun h=>⟨h.1.trans (belowK_b (w:=W0) (by omega) W l o o' hl ho hc hk),?_⟩,fun k cs fr e=>?_⟩
  ·have hne:q3≠l:=by omega
   rw[World.cell?_of_block (a:=⟨q3,0,none⟩) (World.putObj_heap_other hne)];exact h.2
  ·have hne:k≠l:=fun he=>by
    subst he;rw[ho] at e;obtain rfl:=Option.some.inj e
    cases hc
   rw[World.putObj_heap_other hne];exact e
 case ax =>rintro x a' s X Y row ⟨B6,h1,h2,rfl⟩ hg hr;exact⟨B6,h1,heap_own B6 _ (fun _:Unit=>_) () X Y row h2 hg (fun r e=>(hr r e).2),rfl⟩
 case assign=>
  intro l Vu x W K hI hK;obtain⟨Av,nv,cv,ev⟩:=(HM.out.2.2.2.1 x.1 x.2).shape;have hxA:M9 x.1=.agg #[.string ⟨x.1.1.q.path.toArray⟩,.slice Av nv cv,.string ⟨x.1.1.path.toArray⟩,.int .i64 x.1.1.place,.int .i64 (x.1.1.number:Int)]:=by unfold M9;rw[ev]
  rw[hxA];have HK:=Kd hK;have HI:=Kd hI;clear hK hI hst hstops
  gi_wp2
  have hI:=HI.out;refine HK.out _ _ ((KeepsOthers.alloc W _).from _) ⟨fun h=>h.alloc _,fun k cs fr e=>(Below.heap_alloc W _ k (Array.getElem?_eq_some_iff.1 e).1).trans e⟩ ((En w W0.heap.size g q0 q1 q2 q3 Mr Ds (by have:=HQ.out;omega)).alloc _ hI) ⟨W.heap.size,?_,?_,?_⟩
  ·have:=hI.1.2.1.lt
   exact this
  ·have:=World.alloc_heap_new W (Obj.cells #[.string ⟨x.1.1.q.path.toArray⟩,.slice Av nv cv,.string ⟨x.1.1.path.toArray⟩,.int .i64 x.1.1.place,.int .i64 (x.1.1.number:Int)] 182)
   rw[ev];exact this
  ·rw[hxA]
 case body =>
  rintro l Vu x a' W hl ⟨r,hr⟩ ⟨⟨h0,h3,h1,v,h2,hrow,-⟩,hB⟩ ⟨B6,hB6,h6,rfl⟩ hlt;have hsn:=accV_snoc Mr Ds Vu x;obtain⟨hm,hd1,hd2,hset,hL⟩:=HM.out;have hm1:=hm.below hB
  have kd:=done_spec (Ds.map Prod.fst) x.1.1.q.path _ (fun _=>True) g W hm1.c7 ⟨dA,dC,by rw[List.length_map],by rw[List.length_map];exact hd1,hd2,hm1.r7⟩ (fun r hr=>by
   obtain⟨d,hd,rfl⟩:=List.mem_map.1 hr;obtain⟨A,c,e,-⟩:=hm.rq d hd;rw[e]
   rfl)
  obtain⟨Av,nv,cv,ev⟩:=(hset x.1 x.2).shape;have hxA:M9 x.1=.agg #[.string ⟨x.1.1.q.path.toArray⟩,.slice Av nv cv,.string ⟨x.1.1.path.toArray⟩,.int .i64 x.1.1.place,.int .i64 (x.1.1.number:Int)]:=by unfold M9;rw[ev]
  rw[hxA];rw[ev] at h6;obtain⟨⟨p,L⟩,hacc⟩:∃ a,Bf Mr Ds Vu=a:=⟨_,rfl⟩;rw[hacc] at h1 hrow hsn;dsimp only at h1 hrow;have hLl:L.length≤(J9 Mr Ds).length:=by have:=Pw ((Ds.map Prod.fst).map Qf) (Vu.map Subtype.val) ([],[]);rw[show (Vu.map Subtype.val).foldl (Xq ((Ds.map Prod.fst).map Qf)) ([],[])=(p,L) from hacc,List.length_map] at this;simp only[List.length_nil] at this;omega
  obtain⟨Av2,c2,rfl,-,-⟩:=Q4 hrow;obtain⟨N,hN⟩:∃ N,L.length=N:=⟨_,rfl⟩;rw[hN] at h2 hrow hLl;have hrowN:W.ownsRow w.heap.size 182 5 (.slice Av2 N c2) L.length (L.flatMap Hn):=by rw[hN];exact hrow
  have f0:=(Z8 h6 0).1;have f1:=(Z8 h6 1).1;have f2:=(Z8 h6 2).1;have f3:=(Z8 h6 3).1;have f4:=(Z8 h6 4).1;have g0:=h0.cell;have g1:=h1.cell;have z1:=h1.frozen;have g2:=h2.cell;have z2:=h2.frozen;obtain⟨dn,hdn⟩:∃ b,Tm.done ((Ds.map Prod.fst).map Qf) x.1.1.q.path=b:=⟨_,rfl⟩;rw[hdn] at kd;have hx5:Hn x.1=[.string ⟨x.1.1.q.path.toArray⟩,.slice Av nv cv,.string ⟨x.1.1.path.toArray⟩,.int .i64 x.1.1.place,.int .i64 (x.1.1.number:Int)]:=by unfold Hn;rw[ev]
  have HP:=Kd5 hsn hacc hLl hdn hN;have HB:Hid (U7 w g q0 q1 q2 q3 p L W):=Kd ⟨⟨h0,h3,h1,_,h2,hrowN,trivial⟩,hB⟩;have H6:=Kd h6;have HR:=Kd3 h1 h2 hrow;generalize hpt:x.1.1.q.path=pt at f0 kd hxA hx5;generalize x.1.1.path=pp at f2 hxA hx5;generalize x.1.1.place=pl at f3 hxA hx5;generalize x.1.1.number=nu at f4 hxA hx5;have HX5:=Kd hx5;have HPT:=Kd hpt;clear hx5 hpt hsn hm hd1 hd2 hset hL hm1 hLl hdn hacc ev hxA hrowN h0 h3 h1 h2 hrow hB h6 hst hstops;have l0:=World.block_lt_of_cell? W _ g0;have l1:=World.block_lt_of_cell? W _ g1;have l2:=World.block_lt_of_cell? W _ g2;have l6:=World.block_lt_of_cell? W _ f0;dsimp only at l0 l1 l2 l6
  cases dn with
  | true=>
    gi_wp2_with (refine⟨trivial,?_⟩;gi_at_call 144;refine(CallsIn.inRound l (callsIn_wide.2 kd)).mono ?_;rintro e w1 ⟨rfl,z1⟩)
    have he:Bf Mr Ds (Vu++[x])=(p,L) :=(by rw[HP.out.1];unfold Xq;rw[if_pos (.inl HP.out.2.2.2.1)]);refine⟨Wj _ z1,Uy z1,?_⟩;unfold He;rw[he];exact HB.out.below z1
  | false =>
    have kd2:=kd.mono (R':=fun e w'=>e=.returned (.bool false)∧Below W.heap.size W w'∧w'.cell? ⟨B6,0,none⟩=some (.string ⟨pt.toArray⟩)∧w'.cell? ⟨B6,1,none⟩=some (.slice Av nv cv)∧w'.cell? ⟨B6,2,none⟩=some (.string ⟨pp.toArray⟩)∧w'.cell? ⟨B6,3,none⟩=some (.int .i64 pl)∧w'.cell? ⟨B6,4,none⟩=some (.int .i64 (nu:Int))∧w'.cell? ⟨q1,0,none⟩=some (.string ⟨p.toArray⟩)∧w'.frozen? ⟨q1,0,none⟩=false∧w'.cell? ⟨q2,0,none⟩=some (.slice Av2 N c2)∧w'.frozen? ⟨q2,0,none⟩=false) (by
     rintro e w' ⟨rfl,z⟩;have h1':Boxed w' q1 9 (.string ⟨p.toArray⟩):=Jh z HR.out.1;have h2':Boxed w' q2 177 (.slice Av2 N c2):=Jh z HR.out.2.1
     exact⟨rfl,z,(z.cell (p:=⟨B6,0,none⟩) l6).trans f0,(z.cell (p:=⟨B6,1,none⟩) l6).trans f1,(z.cell (p:=⟨B6,2,none⟩) l6).trans f2,(z.cell (p:=⟨B6,3,none⟩) l6).trans f3,(z.cell (p:=⟨B6,4,none⟩) l6).trans f4,h1'.cell,h1'.frozen,h2'.cell,h2'.frozen⟩)
    clear kd;have h4:Four w q0 q1 q2 q3 :=(by have:=HQ.out;exact⟨by omega,by omega⟩);have hb6:=H6.out;have n61:¬ B6=q1 :=(by have:=HQ.out;omega);have n62:¬ B6=q2 :=(by have:=HQ.out;omega);have n12:¬ q1=q2 :=(by have:=HQ.out;omega);obtain⟨i0,hi,hz0,hz1,hz2⟩:=info_parts info_nd;have hlm:=HP.out.2.2.1;have hLm:=HM.out.2.2.2.2;have hLe:=HP.out.2.1;clear hb6
    by_cases hL0:L=[]
    ·have hlen0:¬(0:Int)<(N:Int):=by
      have:N=0 :=(by rw[←HP.out.2.2.2.2,hL0];rfl);omega
     gi_wp2_with (first|(refine⟨trivial,?_⟩;gi_at_call 144;refine(CallsIn.inRound l (callsIn_wide.2 kd2)).mono ?_;rintro e w1 ⟨rfl,z1,k0,k1,k2,k3,k4,m1,y1,m2,y2⟩)|(gi_at_builtin;go_must (
      have J1:=HB.out.below z1;have T1:=J1.setPath h4 W0.heap.size pt;have KF0:=Wj W0.heap.size z1;have KN0:=Uy (w:=w) (q:=q3) (g:=g) z1;obtain⟨W2,hW2⟩:∃ W2,w1.setCell ⟨q1,0,none⟩ (.string ⟨pt.toArray⟩)=W2:=⟨_,rfl⟩;rw[hW2] at T1 ⊢;have KF:=KF0.trans T1.1;have KN:=KN0.trans T1.2.1;have J2:=T1.2.2;have J2v:Boxed W2 q2 177 (.slice Av2 N c2):=by rw[←hW2];exact(show Boxed w1 q2 _ _ from Jh z1 HR.out.2.1).other (fun e=>n12 e.symm) _
      have hrow2:W2.ownsRow w.heap.size 182 5 (.slice Av2 N c2) N ((L:List Zq).flatMap Hn):=by
       obtain⟨u,hu,hr,-⟩:=J2.1.2.2.2;obtain rfl:u=_:=by have:=(show W2.heap[q2]?=_ from hu).symm.trans J2v;injection this with this;injection this with this;simpa using this
       rw[HP.out.2.2.2.2] at hr;exact hr
      have hsz:W2.heap.size=w1.heap.size :=(by rw[←hW2];rw[World.size_setCell]);have hb1:N+1≤maxLen :=(by unfold maxLen;omega);have hb2:(N+1)*72≤140737488355328 :=(by omega);have hb3:w.heap.size≤(W2.alloc (Obj.cells #[.string ⟨pt.toArray⟩,.slice Av nv cv,.string ⟨pp.toArray⟩,.int .i64 pl,.int .i64 (nu:Int)] 182)).heap.size :=(by have:=J2.2.size;simp;omega);refine wpListIn_append_own _ rfl _ _ 177 rfl w.heap.size 182 i0 _ 5 72 underlying177 hi hz0 hz1 hz2 rfl (by decide) _ _ _ rfl (hrow2.alloc _) ⟨w1.heap.size,0,none⟩ 1 1 [.string ⟨pt.toArray⟩,.slice Av nv cv,.string ⟨pp.toArray⟩,.int .i64 pl,.int .i64 (nu:Int)] rfl rfl (hsz▸Na W2 _ _ _ _ _ _) (by simp[Value.oneCell']) hb1 hb2 hb3 ?_;intro v' w3 hown' hgrow _;obtain⟨g',cap',rfl⟩:=ownsRow_succ hown';have hv3:Boxed w3 q2 177 _:=(J2v.alloc _).kept hgrow (J2v.not_row (by decide) hrow2);have m3:=hv3.cell
      have y3:=hv3.frozen)))
     have HLN:L.length=N:=HP.out.2.2.2.2;have hown2:w3.ownsRow w.heap.size 182 5 (.slice (some ⟨g',0,none⟩) (N+1) cap') (L++[x.1]).length ((L++[x.1]).flatMap Hn) :=(by rw[List.length_append,HLN,List.flatMap_append,List.flatMap_cons,List.flatMap_nil,List.append_nil,HX5.out];exact hown');obtain⟨kk1,kk2,kk3⟩:=J2.push h4 W0.heap.size J2v hown2 hgrow;have he:Bf Mr Ds (Vu++[x])=(pt,L++[x.1]) :=(by rw[HP.out.1,Ed _ p pt L x.1 HPT.out HP.out.2.2.2.1 (.inl hL0),if_neg (fun e=>e.1 hL0)]);refine⟨KF.trans kk1,KN.trans kk2,?_⟩;unfold He;rw[he];exact kk3
    ·have hlen:(0:Int)<(L.length:Int):=by have:=List.length_pos_iff.2 hL0;omega
     have hlen2:0<L.length:=List.length_pos_iff.2 hL0
     cases hlt1:Tm.Jr p pt with
     | true=>
       have hbl:Op.bytesLess pt p=false:=by
        rw[Vn]
        cases h:Tm.Jr pt p with
        |false=>rfl
        | true=>
          have:=Tm.Je _ _ _ h hlt1;rw[Tm.Qs] at this
          cases this
       have hbq:(pt==p)=false:=by
        cases h:pt==p with
        |false=>rfl
        | true=>
          rw[eq_of_beq h,Tm.Qs] at hlt1
          cases hlt1
       gi_wp2_with (refine⟨trivial,?_⟩;gi_at_call 144;refine(CallsIn.inRound l (callsIn_wide.2 kd2)).mono ?_;rintro e w1 ⟨rfl,z1,k0,k1,k2,k3,k4,m1,y1,m2,y2⟩)
       have he:Bf Mr Ds (Vu++[x])=(p,L) :=(by rw[HP.out.1];unfold Xq;rw[if_pos (.inr ⟨hL0,by rw[HPT.out];exact hlt1⟩)]);refine⟨Wj _ z1,Uy z1,?_⟩;unfold He;rw[he];exact HB.out.below z1
     | false=>
       cases hlt2:Tm.Jr pt p with
       | true=>
         have hbl:Op.bytesLess pt p=true:=by rw[Vn,hlt2]
         have hbq:(pt==p)=false:=by
          cases h:pt==p with
          |false=>rfl
          | true=>
            rw[eq_of_beq h,Tm.Qs] at hlt2
            cases hlt2
         gi_wp2_with (first|(refine⟨trivial,?_⟩;gi_at_call 144;refine(CallsIn.inRound l (callsIn_wide.2 kd2)).mono ?_;rintro e w1 ⟨rfl,z1,k0,k1,k2,k3,k4,m1,y1,m2,y2⟩)|(gi_at_builtin;go_must (
          have J1:=HB.out.below z1;have T0:=J1.setNil h4 W0.heap.size;obtain⟨W1,hW1⟩:∃ W1,w1.setCell ⟨q2,0,none⟩ (.slice none 0 0)=W1:=⟨_,rfl⟩;rw[hW1] at T0 ⊢;have T1:=T0.2.2.setPath h4 W0.heap.size pt;have KF0:=(Wj W0.heap.size z1).trans T0.1;have KN0:=(Uy (w:=w) (q:=q3) (g:=g) z1).trans T0.2.1;obtain⟨W2,hW2⟩:∃ W2,W1.setCell ⟨q1,0,none⟩ (.string ⟨pt.toArray⟩)=W2:=⟨_,rfl⟩;rw[hW2] at T1 ⊢;have KF:=KF0.trans T1.1;have KN:=KN0.trans T1.2.1;have J2:=T1.2.2;have J2v:Boxed W2 q2 177 (.slice none 0 0):=by rw[←hW2];exact(by rw[←hW1];exact(show Boxed w1 q2 _ _ from Jh z1 HR.out.2.1).set _:Boxed W1 q2 _ _).other (fun e=>n12 e.symm) _
          have hrow2:W2.ownsRow w.heap.size 182 5 (.slice none 0 0) 0 (([]:List Zq).flatMap Hn):=by
           obtain⟨u,hu,hr,-⟩:=J2.1.2.2.2;obtain rfl:u=_:=by have:=(show W2.heap[q2]?=_ from hu).symm.trans J2v;injection this with this;injection this with this;simpa using this
           exact hr
          have hsz:W2.heap.size=w1.heap.size :=(by rw[←hW2];rw[World.size_setCell,←hW1,World.size_setCell]);have hb1:0+1≤maxLen :=(by unfold maxLen;omega);have hb2:(0+1)*72≤140737488355328 :=(by omega);have hb3:w.heap.size≤(W2.alloc (Obj.cells #[.string ⟨pt.toArray⟩,.slice Av nv cv,.string ⟨pp.toArray⟩,.int .i64 pl,.int .i64 (nu:Int)] 182)).heap.size :=(by have:=J2.2.size;simp;omega);refine wpListIn_append_own _ rfl _ _ 177 rfl w.heap.size 182 i0 _ 5 72 underlying177 hi hz0 hz1 hz2 rfl (by decide) _ _ _ rfl (hrow2.alloc _) ⟨w1.heap.size,0,none⟩ 1 1 [.string ⟨pt.toArray⟩,.slice Av nv cv,.string ⟨pp.toArray⟩,.int .i64 pl,.int .i64 (nu:Int)] rfl rfl (hsz▸Na W2 _ _ _ _ _ _) (by simp[Value.oneCell']) hb1 hb2 hb3 ?_;intro v' w3 hown' hgrow _;obtain⟨g',cap',rfl⟩:=ownsRow_succ hown';have hv3:Boxed w3 q2 177 _:=(J2v.alloc _).kept hgrow (J2v.not_row (by decide) hrow2);have m3:=hv3.cell
          have y3:=hv3.frozen)))
         have HLN:([]:List Zq).length=0:=rfl;have hown2:w3.ownsRow w.heap.size 182 5 (.slice (some ⟨g',0,none⟩) (0+1) cap') (([]:List Zq)++[x.1]).length ((([]:List Zq)++[x.1]).flatMap Hn) :=(by rw[List.length_append,HLN,List.flatMap_append,List.flatMap_cons,List.flatMap_nil,List.append_nil,HX5.out];exact hown');obtain⟨kk1,kk2,kk3⟩:=J2.push h4 W0.heap.size J2v hown2 hgrow;have he:Bf Mr Ds (Vu++[x])=(pt,([]:List Zq)++[x.1]) :=(by rw[HP.out.1,Ed _ p pt L x.1 HPT.out HP.out.2.2.2.1 (.inr hlt1),if_pos ⟨hL0,hlt2⟩]);refine⟨KF.trans kk1,KN.trans kk2,?_⟩;unfold He;rw[he];exact kk3
       | false=>
         have hbl:Op.bytesLess pt p=false :=(by rw[Vn,hlt2]);have hbq:(pt==p)=true:=by rw[Tm.Vp _ _ hlt1 hlt2];exact beq_self_eq_true _
         gi_wp2_with (first|(refine⟨trivial,?_⟩;gi_at_call 144;refine(CallsIn.inRound l (callsIn_wide.2 kd2)).mono ?_;rintro e w1 ⟨rfl,z1,k0,k1,k2,k3,k4,m1,y1,m2,y2⟩)|(gi_at_builtin;go_must (
          have J1:=HB.out.below z1;have T1:=J1.setPath h4 W0.heap.size pt;have KF0:=Wj W0.heap.size z1;have KN0:=Uy (w:=w) (q:=q3) (g:=g) z1;obtain⟨W2,hW2⟩:∃ W2,w1.setCell ⟨q1,0,none⟩ (.string ⟨pt.toArray⟩)=W2:=⟨_,rfl⟩;rw[hW2] at T1 ⊢;have KF:=KF0.trans T1.1;have KN:=KN0.trans T1.2.1;have J2:=T1.2.2;have J2v:Boxed W2 q2 177 (.slice Av2 N c2):=by rw[←hW2];exact(show Boxed w1 q2 _ _ from Jh z1 HR.out.2.1).other (fun e=>n12 e.symm) _
          have hrow2:W2.ownsRow w.heap.size 182 5 (.slice Av2 N c2) N ((L:List Zq).flatMap Hn):=by
           obtain⟨u,hu,hr,-⟩:=J2.1.2.2.2;obtain rfl:u=_:=by have:=(show W2.heap[q2]?=_ from hu).symm.trans J2v;injection this with this;injection this with this;simpa using this
           rw[HP.out.2.2.2.2] at hr;exact hr
          have hsz:W2.heap.size=w1.heap.size :=(by rw[←hW2];rw[World.size_setCell]);have hb1:N+1≤maxLen :=(by unfold maxLen;omega);have hb2:(N+1)*72≤140737488355328 :=(by omega);have hb3:w.heap.size≤(W2.alloc (Obj.cells #[.string ⟨pt.toArray⟩,.slice Av nv cv,.string ⟨pp.toArray⟩,.int .i64 pl,.int .i64 (nu:Int)] 182)).heap.size :=(by have:=J2.2.size;simp;omega);refine wpListIn_append_own _ rfl _ _ 177 rfl w.heap.size 182 i0 _ 5 72 underlying177 hi hz0 hz1 hz2 rfl (by decide) _ _ _ rfl (hrow2.alloc _) ⟨w1.heap.size,0,none⟩ 1 1 [.string ⟨pt.toArray⟩,.slice Av nv cv,.string ⟨pp.toArray⟩,.int .i64 pl,.int .i64 (nu:Int)] rfl rfl (hsz▸Na W2 _ _ _ _ _ _) (by simp[Value.oneCell']) hb1 hb2 hb3 ?_;intro v' w3 hown' hgrow _;obtain⟨g',cap',rfl⟩:=ownsRow_succ hown';have hv3:Boxed w3 q2 177 _:=(J2v.alloc _).kept hgrow (J2v.not_row (by decide) hrow2);have m3:=hv3.cell
          have y3:=hv3.frozen)))
         have HLN:L.length=N:=HP.out.2.2.2.2;have hown2:w3.ownsRow w.heap.size 182 5 (.slice (some ⟨g',0,none⟩) (N+1) cap') (L++[x.1]).length ((L++[x.1]).flatMap Hn) :=(by rw[List.length_append,HLN,List.flatMap_append,List.flatMap_cons,List.flatMap_nil,List.append_nil,HX5.out];exact hown');obtain⟨kk1,kk2,kk3⟩:=J2.push h4 W0.heap.size J2v hown2 hgrow;have he:Bf Mr Ds (Vu++[x])=(pt,L++[x.1]) :=(by rw[HP.out.1,Ed _ p pt L x.1 HPT.out HP.out.2.2.2.1 (.inr hlt1),if_neg (fun e=>by rw[hlt2] at e;cases e.2)]);refine⟨KF.trans kk1,KN.trans kk2,?_⟩;unfold He;rw[he];exact kk3
 case done=>
  rintro D xs W hD hS hI hK;obtain⟨p,L,hacc⟩:∃ p L,Bf Mr Ds xs=(p,L):=⟨_,_,rfl⟩;have hJ:U7 w g q0 q1 q2 q3 p L W:=by have:=hI;unfold He at this;rw[hacc] at this;exact this
  obtain⟨⟨h0,h3,h1,v,h2,hrow,-⟩,hB⟩:=id hJ;obtain⟨Av2,c2,rfl,hc1,hc2⟩:=Q4 hrow;have g1:=h1.cell;have g2:=h2.cell;have HJ:=Kd7 hJ hacc hS hD hrow hc1 hc2;have hmx:prog.follows .mixedOrders=true:=by kernel_rfl
  clear hJ hacc hS hI h0 h3 h1 h2 hrow hc1 hc2 hst hstops hD
  gi_wp2
  gi_region
  gi_wp2
  refine⟨by simp,.inl ⟨_,_,rfl,run_takeDeferred hK,?_⟩⟩;obtain⟨hJ,hacc,hS,hD,hrow,hc1,hc2⟩:=HJ.out;obtain⟨hm,hd1,hd2,hset,hL⟩:=HM.out;have hI:He w g q0 q1 q2 q3 Mr Ds xs W.drew:=by unfold He;rw[hacc];exact hJ.below (Below.refl _ W).drew
  have hI2:=(En w W0.heap.size g q0 q1 q2 q3 Mr Ds (by have:=HQ.out;omega)).putObj (.deferred none) hI hD (show W.drew.heap[D]?=some (.deferred (some [])) from hK) rfl;unfold He at hI2;rw[hacc] at hI2;obtain⟨⟨-,-,-,u,hu,hru,-⟩,hBz⟩:=hI2;dsimp only at hu hru;have hrow2:=ownsRow_putObj (show W.drew.ownsRow w.heap.size 182 5 (.slice Av2 L.length c2) L.length (L.flatMap Hn) from hrow) (.deferred none) (show W.drew.heap[D]?=some (.deferred (some [])) from hK) rfl;refine⟨_,results_tmp2 rfl _ _ _,hBz,Av2,c2,L,p,rfl,?_,hc1,hc2,rd_of_owns hrow2,fun x hx=>?_⟩
  ·have:=Px ((Ds.map Prod.fst).map Qf) (J9 Mr Ds) ([],[])
   rw[needsV_fst Mr Ds hrq,←hS,show (xs.map Subtype.val).foldl (Xq ((Ds.map Prod.fst).map Qf)) ([],[])=(p,L) from hacc] at this;exact this
  ·have:=Pv ((Ds.map Prod.fst).map Qf) (xs.map Subtype.val) ([],[]) x (by
    rw[show (xs.map Subtype.val).foldl (Xq ((Ds.map Prod.fst).map Qf)) ([],[])=(p,L) from hacc]
    exact hx)
   rcases this with h|h
   ·rw[hS] at h
    exact h
   ·cases h
 case stop =>rintro D c Vu W _ _ h _;exact h.elim
end Go.Proofs.YtiefajiebebgoaaGreatDoor
