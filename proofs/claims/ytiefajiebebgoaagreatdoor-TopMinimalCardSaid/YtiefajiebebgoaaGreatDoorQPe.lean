/- Lemmas and contracts on what the walks need, several small texts in one. Conditions: as each theorem states. -/
import Derived.Test.YtiefajiebebgoaaGreatDoorQHd
import Derived.Test.YtiefajiebebgoaaGreatDoorQPd
import Derived.Deep.Upon
import Derived.Test.YtiefajiebebgoaaGreatDoorQPb
import Derived.Test.YtiefajiebebgoaaGreatDoorQPa
import Derived.Test.YtiefajiebebgoaaGreatDoorQPc
import Derived.Shelf.Small.Strs
import Derived.Deep.LoopGhost
set_option maxRecDepth 20000
set_option maxHeartbeats 8000000
open Go.Proofs.Tryz
namespace Go.Proofs.YtiefajiebebgoaaGreatDoor
set_option linter.unusedVariables false
open Go.RowKit Go.Shelf
attribute [local go_sem] Oper.semAt_some
def gst (G:Tm.Qk→Option Nat) (p:Tm.Qk) (i:Nat):Tm.Qk→Option Nat:=fun s=>if s=p then some (match G p with
 |some k=>if k<i then i else k
 |none=>i) else G s
def U8 (M:Lit→Option Value) (G:Tm.Qk→Option Nat):Prop:=∀ p:Tm.Qk,M (.string p)=(G p).map fun k:Nat=>Value.int .i64 (k:Int)
theorem U8.put {M:Lit→Option Value} {G:Tm.Qk→Option Nat} (h:U8 M G) (p:Tm.Qk) (i:Nat) (hi:∀ k,G p=some k→k<i):U8 (Jq M (.string p) (.int .i64 (i:Int))) (gst G p i):=fun s=>by
 unfold gst
 by_cases hs:s=p
 ·subst hs
  rw[Zd,if_pos rfl]
  cases hG:G s with
  |none=>rfl
  |some k =>dsimp only;rw[if_pos (hi k hG)];rfl
 ·rw[Qz (fun e=>hs (Lit.string.inj e)),if_neg hs,h s]
theorem U8.same {M:Lit→Option Value} {G:Tm.Qk→Option Nat} (h:U8 M G) (p:Tm.Qk) (i k:Nat) (hk:G p=some k) (hi:¬ k<i):U8 M (gst G p i):=fun s=>by
 unfold gst
 by_cases hs:s=p
 ·subst hs
  rw[if_pos rfl,hk];dsimp only;rw[if_neg hi,h s,hk]
 ·rw[if_neg hs,h s]
theorem Il (X:List Qi) (g pw pg gb n i:Nat) (xv nm:Value) (F:Nat→Prop) (lo:Nat) (w0 W:World) (Rs:List Q3) (M:Lit→Option Value) (G:Tm.Qk→Option Nat) (r:Qi) (hr:X[i]?=some r) (hX:X.length≤1048576) (hrp:r.path.length≤4294967000)
 (hx:Qx W F xv X) (hg:W.cell? ⟨g,0,none⟩=some xv) (hpw:W.cell? ⟨pw,0,none⟩=some (.pointer (some ⟨g,0,none⟩))) (hpg:W.cell? ⟨pg,0,none⟩=some (.map (some gb)))
 (h:St lo w0 W (Zw 9 gb n M::Rs)) (hG:U8 M G) (hn:n<maxLen):
 Calls prog 90 #[.int .i64 (i:Int),nm,.pointer (some ⟨pw,0,none⟩),.pointer (some ⟨pg,0,none⟩)] W fun e w'=>e=.returned (.tuple #[])∧∃ M',U8 M' (gst G r.path i)∧St lo w0 w' (Zw 9 gb (n+1) M'::Rs):=by
 obtain⟨A,c,rfl,-,-,hrd,-⟩:=hx;obtain⟨b,off,rfl,hbl,ra⟩:=Vo hrd hr;have hiN:=(List.getElem?_eq_some_iff.1 hr).1;obtain⟨N,hN⟩:∃ N,X.length=N:=⟨_,rfl⟩;rw[hN] at hg hX hiN;have c0:=ra.c0;have hml:r.path.length≤maxLen:=by unfold maxLen;omega
 have i0:(0:Int)≤(i:Int):=Int.natCast_nonneg _;have i1:(i:Int)<(N:Int):=Int.ofNat_lt.2 hiN;have lk:=h.mp.look_ok J8 underlying169 (Rr W) (Zb r.path hml);rw[hG r.path] at lk;obtain⟨W2,u2,s2⟩:=h.mput 169 J8 underlying169 hn (Zb r.path hml) (.int .i64 (i:Int));have hput:=hG.put r.path i;have hsame:=fun k=>hG.same r.path i k;have S0:=Kd (h.mpMono (Nat.le_succ n));have S2:=Kd s2;clear h s2 hrd ra hr hN
 cases hGp:G r.path with
 | none=>
   rw[hGp] at lk;have HP:=Kd (hput (fun k hk=>by rw[hGp] at hk;cases hk));clear hput hsame hGp;simp only[Option.map_none,Option.getD_none,Option.isSome_none] at lk;go_enter func90,ntmps90;go_wp2
   go_end0
   exact⟨rfl,_,HP.out,S2.out⟩
 | some k=>
   rw[hGp] at lk;simp only[Option.map_some,Option.getD_some,Option.isSome_some] at lk
   by_cases hk:k<i
   ·have hk':(k:Int)<(i:Int):=by omega
    have HP:=Kd (hput (fun j hj=>by rw[hGp] at hj;obtain rfl:=Option.some.inj hj;exact hk));clear hput hsame hGp;go_enter func90,ntmps90;go_wp2
    go_end0
    exact⟨rfl,_,HP.out,S2.out⟩
   ·have hk':¬(k:Int)<(i:Int):=by omega
    have HP:=Kd (hsame k hGp hk);clear hput hsame hGp;go_enter func90,ntmps90;go_wp2
    go_end0
    exact⟨rfl,_,HP.out,S0.out⟩
structure Lf (x:List Tm.Qp) (roots:List Tm.Qw) (S todo:List Nat) (G:Tm.Qk→Option Nat):Prop where
 nodup:S.Nodup
 nmS:∀ i∈S,Tm.Nm x roots i
 nmT:∀ i∈todo,Tm.Nm x roots i
 root:∀ q∈roots,∃ i,Tm.X6 x q=some i∧(i∈S∨i∈todo)
 req:∀ i∈S,∀ r,x[i]?=some r→∀ q∈r.reqs,∃ j,Tm.X6 x q=some j∧(j∈S∨j∈todo)
 top:∀ i∈S,∀ r,x[i]?=some r→∃ k,G r.path=some k∧i≤k
 low:∀ p k,G p=some k→k∈S∧∃ r,x[k]?=some r∧r.path=p
section
variable {x:List Tm.Qp} {roots:List Tm.Qw} {S todo:List Nat} {G:Tm.Qk→Option Nat}
theorem Lf.start {L:List Nat} (h:∀ i,i∈L↔∃ q∈roots,Tm.X6 x q=some i) (hn:¬ ∃ q∈roots,Tm.X6 x q=none):Lf x roots [] L (fun _=>none) where
 nodup:=List.Pairwise.nil
 nmS i hi:=by cases hi
 nmT i hi:=by obtain⟨q,hq,e⟩:=(h i).1 hi;exact .root hq e
 root q hq:=by
  cases ho:Tm.X6 x q with
  |none=>exact absurd ⟨q,hq,ho⟩ hn
  |some i=>exact⟨i,rfl,.inr ((h i).2 ⟨q,hq,ho⟩)⟩
 req i hi:=by cases hi
 top i hi:=by cases hi
 low p k h:=by cases h
theorem Lf.skip {i:Nat} (h:Lf x roots S (i::todo) G) (hi:i∈S):Lf x roots S todo G where
 nodup:=h.nodup
 nmS:=h.nmS
 nmT j hj:=h.nmT j (List.mem_cons_of_mem _ hj)
 root q hq:=by
  obtain⟨j,e,h1⟩:=h.root q hq;refine⟨j,e,?_⟩;rcases h1 with h1|h1
  ·exact .inl h1
  ·rcases List.mem_cons.1 h1 with rfl|h1
   ·exact .inl hi
   ·exact .inr h1
 req j hj r hr q hq:=by
  obtain⟨k,e,h1⟩:=h.req j hj r hr q hq;refine⟨k,e,?_⟩;rcases h1 with h1|h1
  ·exact .inl h1
  ·rcases List.mem_cons.1 h1 with rfl|h1
   ·exact .inl hi
   ·exact .inr h1
 top:=h.top
 low:=h.low
theorem Lf.miss {i:Nat} {r:Tm.Qp} (h:Lf x roots S (i::todo) G) (hr:x[i]?=some r) (hn:∃ q∈r.reqs,Tm.X6 x q=none):Tm.Bh x roots:=by obtain⟨q,hq,e⟩:=hn;exact⟨q,e,.inr ⟨i,r,h.nmT i (List.mem_cons_self ..),hr,hq⟩⟩
theorem Lf.visit {i:Nat} {r:Tm.Qp} {L:List Nat} (h:Lf x roots S (i::todo) G) (hi:i∉S) (hr:x[i]?=some r) (hL:∀ j,j∈L↔∃ q∈r.reqs,Tm.X6 x q=some j) (hn:¬ ∃ q∈r.reqs,Tm.X6 x q=none):
 Lf x roots (i::S) (todo++L) (gst G r.path i) where
 nodup:=List.nodup_cons.2 ⟨hi,h.nodup⟩
 nmS j hj:=by
  rcases List.mem_cons.1 hj with rfl|hj
  ·exact h.nmT j (List.mem_cons_self ..)
  ·exact h.nmS j hj
 nmT j hj:=by
  rcases List.mem_append.1 hj with hj|hj
  ·exact h.nmT j (List.mem_cons_of_mem _ hj)
  ·obtain⟨q,hq,e⟩:=(hL j).1 hj
   exact .req (h.nmT i (List.mem_cons_self ..)) hr hq e
 root q hq:=by
  obtain⟨j,e,h1⟩:=h.root q hq;refine⟨j,e,?_⟩;rcases h1 with h1|h1
  ·exact .inl (List.mem_cons_of_mem _ h1)
  ·rcases List.mem_cons.1 h1 with rfl|h1
   ·exact .inl (List.mem_cons_self ..)
   ·exact .inr (List.mem_append.2 (.inl h1))
 req j hj s hs q hq:=by
  rcases List.mem_cons.1 hj with rfl|hj
  ·rw[hr] at hs
   obtain rfl:=Option.some.inj hs
   cases ho:Tm.X6 x q with
   |none=>exact absurd ⟨q,hq,ho⟩ hn
   |some k=>exact⟨k,rfl,.inr (List.mem_append.2 (.inr ((hL k).2 ⟨q,hq,ho⟩)))⟩
  ·obtain⟨k,e,h1⟩:=h.req j hj s hs q hq
   refine⟨k,e,?_⟩;rcases h1 with h1|h1
   ·exact .inl (List.mem_cons_of_mem _ h1)
   ·rcases List.mem_cons.1 h1 with rfl|h1
    ·exact .inl (List.mem_cons_self ..)
    ·exact .inr (List.mem_append.2 (.inl h1))
 top j hj s hs:=by
  unfold gst;rcases List.mem_cons.1 hj with rfl|hj
  ·rw[hr] at hs
   obtain rfl:=Option.some.inj hs;rw[if_pos rfl]
   cases hG:G r.path with
   |none=>exact⟨j,rfl,Nat.le_refl _⟩
   | some k=>
     dsimp only
     by_cases hk:k<j
     ·exact⟨j,by rw[if_pos hk],Nat.le_refl _⟩
     ·exact⟨k,by rw[if_neg hk],Nat.le_of_not_lt hk⟩
  ·obtain⟨k,e,hk⟩:=h.top j hj s hs
   by_cases hp:s.path=r.path
   ·rw[if_pos hp,←hp,e]
    dsimp only
    by_cases hki:k<i
    ·exact⟨i,by rw[if_pos hki],by omega⟩
    ·exact⟨k,by rw[if_neg hki],hk⟩
   ·rw[if_neg hp]
    exact⟨k,e,hk⟩
 low p k hk:=by
  unfold gst at hk
  by_cases hp:p=r.path
  ·subst hp
   rw[if_pos rfl] at hk;have hk:=Option.some.inj hk
   cases hG:G r.path with
   |none =>rw[hG] at hk;dsimp only at hk;subst hk;exact⟨List.mem_cons_self ..,r,hr,rfl⟩
   | some j=>
     rw[hG] at hk;dsimp only at hk
     by_cases hj:j<i
     ·rw[if_pos hj] at hk
      subst hk;exact⟨List.mem_cons_self ..,r,hr,rfl⟩
     ·rw[if_neg hj] at hk
      subst hk;obtain⟨h1,h2⟩:=h.low r.path j hG;exact⟨List.mem_cons_of_mem _ h1,h2⟩
  ·rw[if_neg hp] at hk
   obtain⟨h1,h2⟩:=h.low p k hk;exact⟨List.mem_cons_of_mem _ h1,h2⟩
theorem Lf.all (h:Lf x roots S [] G) {i:Nat} (hi:Tm.Nm x roots i):i∈S:=by
 induction hi with
 |root hq e =>obtain⟨j,e',h1⟩:=h.root _ hq;rw[e] at e';obtain rfl:=Option.some.inj e';exact h1.resolve_right (by intro h;cases h)
 |req h0 hr hq e ih =>obtain⟨j,e',h1⟩:=h.req _ ih _ hr _ hq;rw[e] at e';obtain rfl:=Option.some.inj e';exact h1.resolve_right (by intro h;cases h)
theorem Lf.hit (h:Lf x roots S [] G):¬ Tm.Bh x roots:=by
 rintro⟨q,e,hq|⟨i,r,hi,hr,hq⟩⟩
 ·obtain⟨j,e',_⟩:=h.root q hq
  rw[e] at e'
  cases e'
 ·obtain⟨j,e',_⟩:=h.req i (h.all hi) r hr q hq
  rw[e] at e'
  cases e'
theorem Lf.chosen (h:Lf x roots S [] G) {L:List Nat} (hs:L.Pairwise fun a b=>a<b) (hL:∀ k,k∈L↔∃ p,G p=some k):Tm.Ub x roots L where
 inc:=hs
 elem i:=by
  rw[hL];constructor
  ·rintro⟨p,hp⟩
   obtain⟨h1,r,hr,e⟩:=h.low p i hp;refine⟨h.nmS i h1,fun j s r' hj hs hr' he=>?_⟩;rw[hr] at hs;obtain rfl:=Option.some.inj hs;obtain⟨k,e2,hk⟩:=h.top j (h.all hj) r' hr';rw[←he,e,hp] at e2;obtain rfl:=Option.some.inj e2;exact hk
  ·rintro⟨h1,h2⟩
   obtain⟨r,hr,-⟩:=h1.there;obtain⟨k,e,hk⟩:=h.top i (h.all h1) r hr;refine⟨r.path,?_⟩;obtain⟨hkS,r',hr',e'⟩:=h.low _ _ e;have:=h2 k r r' (h.nmS k hkS) hr hr' e'.symm;rw[e,Nat.le_antisymm this hk]
end
open Go.RowKit
theorem Da (g:Nat):∀(vs:List Value) (o:Nat) (w:World),U9 (fun k=>k=g) w (w.setCells g o vs)
 |[],_,w=>U9.refl _ w
 |v::vs,o,w=>(Jp w g o v).trans (Da g vs (o+1) _)
theorem Z8 {w:World} {g:Nat} {cur:Array Value} {e:TypeId} (h:w.heap[g]?=some (.cells cur e (0,0))) (j:Nat):w.cell? ⟨g,j,none⟩=cur[j]?∧w.frozen? ⟨g,j,none⟩=false:=by
 constructor
 ·simp[World.cell?,h]
 ·simp[World.frozen?,h]
def quP (w:World) (F:Nat→Prop) (size:Nat) (v:Value) (n:Nat) (xs:List Value):Prop:=
 ∃ ao b off cap,v=.slice ao n cap∧cap≤maxLen∧Go.Came w size ao b off n cap xs∧(0<cap→F b)
theorem Sq {a b c size:Nat} (h:a<(b-c)*size):0<b:=by
 rcases Nat.eq_zero_or_pos b with h0|h0
 ·subst h0
  rw[Nat.zero_sub,Nat.zero_mul] at h;exact absurd h (Nat.not_lt_zero _)
 ·exact h0
theorem quP.mod {w w':World} {F G:Nat→Prop} {size:Nat} {v:Value} {n:Nat} {xs:List Value} (h:quP w F size v n xs) (hm:U9 G w w') (hG:∀ k,F k→¬ G k):quP w' F size v n xs:=by
 obtain⟨ao,b,off,cap,rfl,h1,h2,h3⟩:=h;have hb:0<cap→w'.heap[b]?=w.heap[b]?:=fun hc=>hm.block b (h2.lt hc) (hG b (h3 hc));refine⟨ao,b,off,cap,rfl,h1,⟨h2.le,h2.addr,fun hc=>Nat.lt_of_lt_of_le (h2.lt hc) hm.size,h2.oldsLen,fun j u hj=>?_,fun j hj=>?_⟩,h3⟩
 ·have hc:0<cap:=by
   have:=(List.getElem?_eq_some_iff.1 hj).1;rw[h2.oldsLen] at this;have h4:=h2.le;rcases Nat.eq_zero_or_pos n with h0|h0
   ·subst h0
    rw[Nat.zero_mul] at this;exact absurd this (Nat.not_lt_zero _)
   ·omega
  exact(World.cell?_of_block (a:=⟨b,off+j,none⟩) (hb hc)).trans (h2.olds j u hj)
 ·have hc:=hb (Sq hj)
  rw[World.cell?_of_block (a:=⟨b,off+n*size+j,none⟩) hc,World.frozen?_of_block (a:=⟨b,off+n*size+j,none⟩) hc];exact h2.spare j hj
def Ja (size:Nat) (v:Value) (n:Nat) (xs:List Value):Q3 where
 P w F:=quP w F size v n xs∧∀ k,F k→k<w.heap.size
 lt h:=h.2
 mod h hm hG:=⟨h.1.mod hm hG,fun k hk=>Nat.lt_of_lt_of_le (h.2 k hk) hm.size⟩
section
variable {lo:Nat} {w0 w w':World} {Rs:List Q3} {e:TypeId} {size n:Nat} {v:Value} {xs:List Value}
theorem St.toQu (h:St lo w0 w (Qh e size v n xs::Rs)):St lo w0 w (Ja size v n xs::Rs):=h.turn fun F hF=>by
 obtain⟨⟨hl,h1⟩,h2,h3⟩:=hF;refine⟨?_,h3⟩;rcases h1 with⟨rfl,rfl⟩|⟨g,cap,cur,rfl,-,hg,h4,h5,h6,h7⟩
 ·refine⟨none,0,0,0,rfl,Nat.zero_le _,⟨Nat.le_refl _,fun h=>absurd h (Nat.lt_irrefl _),fun h=>absurd h (Nat.lt_irrefl _),hl,fun j u hj=>?_,fun j hj=>?_⟩,fun h=>absurd h (Nat.lt_irrefl _)⟩
  ·obtain rfl:xs=[]:=List.eq_nil_of_length_eq_zero (by rw[hl,Nat.zero_mul])
   cases hj
  ·exact absurd (Sq hj) (Nat.lt_irrefl _)
 ·refine⟨some ⟨g,0,none⟩,g,0,cap,rfl,h5,⟨h4,fun _=>rfl,fun _=>(Array.getElem?_eq_some_iff.1 hg).1,hl,fun j u hj=>?_,fun j hj=>?_⟩,fun _=>h2 g rfl⟩
  ·rw[Nat.zero_add,(Z8 hg j).1]
   rw[←h7,List.getElem?_take] at hj
   split at hj
   ·rw[←Array.getElem?_toList]
    exact hj
   ·cases hj
  ·refine⟨?_,(Z8 hg _).2⟩
   rw[(Z8 hg _).1,Array.getElem?_eq_getElem]
   ·rfl
   ·rw[h6,Nat.zero_add]
    have:n*size+(cap-n)*size=cap*size :=(by rw[←Nat.add_mul,show n+(cap-n)=cap by omega]);omega
theorem St.qu (h:St lo w0 w (Ja size v n xs::Rs)):quP w (fun k=>lo≤k) size v n xs:=by obtain⟨F,h1,h2,_⟩:=h.open;obtain⟨ao,b,off,cap,h3,h4,h5,h6⟩:=h1.1;exact⟨ao,b,off,cap,h3,h4,h5,fun hc=>h2 _ (h6 hc)⟩
theorem St.qu_form (h:St lo w0 w (Ja size v n xs::Rs)):∃ A c,v=.slice A n c∧n≤c∧c≤maxLen:=by obtain⟨ao,b,off,cap,rfl,h4,h5,h6⟩:=h.qu;exact⟨ao,cap,rfl,h5.le,h4⟩
theorem St.qu_cell {A:Option Addr} {n' c:Nat} (h:St lo w0 w (Ja size (.slice A n' c) n xs::Rs)) (hn:0<n):∃ b off,A=some ⟨b,off,none⟩∧b<w.heap.size∧lo≤b∧∀ j u,xs[j]?=some u→w.cell? ⟨b,off+j,none⟩=some u:=by obtain⟨ao,b,off,cap,e,h4,h5,h6⟩:=h.qu;obtain⟨rfl,rfl,rfl⟩:=Value.slice.inj e;have hc:0<c:=Nat.lt_of_lt_of_le hn h5.le;exact⟨b,off,h5.addr hc,h5.lt hc,h6 hc,h5.olds⟩
theorem St.qu_pop {b off c:Nat} {n':Nat} {ys:List Value} {A:Option Addr} (h:St lo w0 w (Ja size (.slice (some ⟨b,off,none⟩) (n+1) c) (n+1) xs::Rs)) (hA:1<c→A=some ⟨b,off+size,none⟩) (hy:xs.drop size=ys) (hn:n'=n):St lo w0 w (Ja size (.slice A n' (c-1)) n' ys::Rs):=h.turn fun F hF=>by
 subst hn;obtain⟨⟨ao,b',off',cap,e,h4,h5,h6⟩,h3⟩:=hF;obtain⟨rfl,-,rfl⟩:=Value.slice.inj e;have hle:=h5.le;have hc:0<c:=by omega
 have ea:=h5.addr hc;injection ea with ea;injection ea with e1 e2;subst e1;subst e2;have hl:=h5.oldsLen;rw[Nat.add_mul,Nat.one_mul] at hl;refine⟨⟨A,b,off+size,c-1,rfl,by omega,⟨by omega,fun h=>hA (by omega),fun _=>h5.lt hc,by rw[←hy,List.length_drop,hl];omega,fun j u hj=>?_,fun j hj=>?_⟩,fun _=>h6 hc⟩,h3⟩
 ·rw[←hy,List.getElem?_drop] at hj
  rw[show off+size+j=off+(size+j) by omega];exact h5.olds _ _ hj
 ·have:=h5.spare j (by rw[show c-(n'+1)=c-1-n' by omega];exact hj)
  rw[Nat.add_mul,Nat.one_mul,show off+(n'*size+size)+j=off+size+n'*size+j by omega] at this;exact this
theorem St.qu_push {A:Option Addr} {m c:Nat} {ys:List Value} {G:Nat→Prop} {z:Value} {bytes:Nat} (t:TypeId) (h:St lo w0 w (Ja size v n xs::Rs)) (ht:prog.underlying t=some (.slice e)) (hi:(prog.info? e).map (fun i=>(i.zero,i.size,i.bytes))=some (some z,size,bytes)) (hzs:z.cells.size=size)
 (hr:Z9 w G A ys) (hyl:ys.length=m*size) (hsz:0<size) (hone:∀ u∈ys,u.oneCell'=true) (h63:n+m≤maxLen) (hbytes:(n+m)*bytes≤140737488355328) (ty:TypeId):
 ∃ A' c' w',(Builtin.append_ #[t,t] ty #[v,.slice A m c]).run prog w=.ok (.slice A' (n+m) c') w'∧St lo w0 w' (Ja size (.slice A' (n+m) c') (n+m) (xs++ys)::Rs):=by
 obtain⟨i,hi',i1,i2,i3⟩:=info_parts hi;subst i2;subst i3
 have hs:Src prog i.size t (.slice A m c) m ys w:=by
  rcases hr with rfl|⟨b,off,rfl,-,-,hc⟩
  ·have hm:m=0:=by
    rcases Nat.eq_zero_or_pos m with h0|h0
    ·exact h0
    ·have:=Nat.mul_pos h0 hsz
     rw[←hyl] at this;exact absurd this (Nat.lt_irrefl _)
   subst hm
   cases A with
   |none=>exact Src.ofNil w ht c
   |some a=>exact Src.ofSlice w ht a 0 c [] hyl (fun j u hj=>by cases hj) hone
  ·refine Src.ofSlice w ht _ m c ys hyl (fun j u hj=>?_) hone
   obtain⟨hj',rfl⟩:=List.getElem?_eq_some_iff.1 hj;rw[Addr.add_lit];exact hc j hj'
 obtain⟨F,⟨⟨ao,b,off,cap,rfl,h4,h5,h6⟩,h3⟩,hlo,hk⟩:=h.open;have hle:=h5.le;have hol:=h5.oldsLen
 by_cases hroom:n+m≤cap
 ·rcases Nat.eq_zero_or_pos cap with h0|hcap
  ·subst h0
   obtain rfl:n=0:=by omega
   obtain rfl:m=0:=by omega
   obtain rfl:ys=[]:=List.eq_nil_of_length_eq_zero (by rw[hyl,Nat.zero_mul]);refine⟨ao,0,w,run_append_nothing (P:=prog) w t t ty e i ht hi' ao 0 0 (Nat.le_refl _) _ hs,?_⟩;rw[List.append_nil];exact h
  ·have hao:=h5.addr hcap
   subst hao;have hsp:∀ j,j<ys.length→(w.cell? ⟨b,off+n*i.size+j,none⟩).isSome=true∧w.frozen? ⟨b,off+n*i.size+j,none⟩=false:=fun j hj=>by refine h5.spare j (Nat.lt_of_lt_of_le hj ?_);rw[hyl];exact Nat.mul_le_mul_right _ (by omega)
   have hrun:=run_append_room_src (P:=prog) w t t ty e i ht hi' b off n cap _ m ys hs hroom (fun j hj=>(hsp j hj).1) (fun j hj=>(hsp j hj).2);refine⟨_,_,_,hrun,hk (F':=F) (Ja i.size _ (n+m) (xs++ys)) ((Da b ys _ w).mono fun k _ e=>by subst e;exact h6 hcap) ⟨⟨_,b,off,cap,rfl,h4,⟨hroom,fun _=>rfl,fun _=>Nat.lt_of_lt_of_le (h5.lt hcap) (Da b ys _ w).size,by rw[List.length_append,hol,hyl,Nat.add_mul],fun j u hj=>?_,fun j hj=>?_⟩,fun _=>h6 hcap⟩,fun k hk=>Nat.lt_of_lt_of_le (h3 k hk) (Da b ys _ w).size⟩ (fun j hj=>.inl hj)⟩
   ·by_cases hjo:j<xs.length
    ·rw[World.cell?_setCells_out b _ _ _ _ (fun _ _=>Or.inl (by show off+j<off+n*i.size;omega))]
     rw[List.getElem?_append_left hjo] at hj;exact h5.olds j u hj
    ·rw[List.getElem?_append_right (by omega)] at hj
     obtain⟨hj',e'⟩:=List.getElem?_eq_some_iff.1 hj;have:=World.cell?_setCells_in b ys (off+n*i.size) w (fun j hj=>(hsp j hj).1) (j-xs.length) hj';rw[show off+n*i.size+(j-xs.length)=off+j by omega] at this;rw[this,e']
   ·rw[World.frozen?_setCells]
    have e1:off+(n+m)*i.size+j=off+n*i.size+(m*i.size+j) :=(by rw[Nat.add_mul];omega);rw[World.cell?_setCells_out b _ _ _ _ (fun _ _=>Or.inr (by show off+n*i.size+ys.length≤off+(n+m)*i.size+j;omega)),e1];refine h5.spare _ ?_;have:m*i.size+(cap-(n+m))*i.size=(cap-n)*i.size :=(by rw[←Nat.add_mul,show m+(cap-(n+m))=cap-n by omega]);omega
 ·have Zo:(Builtin.firstCells i.size n (.slice ao n cap)).run prog w.drew=.ok xs.toArray w.drew:=by
   rcases Nat.eq_zero_or_pos cap with h0|hcap
   ·subst h0
    obtain rfl:n=0:=by omega
    obtain rfl:xs=[]:=List.eq_nil_of_length_eq_zero (by rw[hol,Nat.zero_mul])
    cases ao with
    |none=>exact run_firstCells_none w.drew i.size 0 0 0
    |some a'=>exact run_firstCells_some w.drew i.size 0 a' 0 0 [] (by simp) (by intro _ _ h';simp at h')
   ·rw[h5.addr hcap]
    refine run_firstCells_some w.drew i.size n ⟨b,off,none⟩ n cap xs hol (fun j u hu=>?_);rw[Addr.add_lit];exact h5.olds j u hu
  have h63':((n+m:Nat):Int)≤9223372036854775807:=by unfold maxLen at h63;omega
  have hrun:=run_append_grow_src (P:=prog) w t t ty e i z ht hi' i1 ao n cap xs Zo _ m ys hs (by omega) h63' (growslice_fits (by omega) hbytes);have hge:=grownCap_ge w (n+m) cap e;have hcm:=grownCap_le_maxLen w (n+m) cap e h63;refine⟨_,_,_,hrun,?_⟩;have hL:(xs++ys).length=(n+m)*i.size:=by rw[List.length_append,hol,hyl,Nat.add_mul]
  generalize grownCap w (n+m) cap e=cc at hge hcm;obtain⟨cs,hcs⟩:∃ cs,(xs++ys).toArray++Builtin.zeroCells z.cells (cc-(n+m))=cs:=⟨_,rfl⟩;have hsz2:cs.size=cc*i.size:=by rw[←hcs,Array.size_append,List.size_toArray,hL,size_zeroCells,hzs,←Nat.add_mul,show n+m+(cc-(n+m))=cc by omega]
  rw[hcs];have hbl:Below w.heap.size w (w.drew.alloc (.cells cs e)):=((Below.refl _ w).drew).alloc (Nat.le_refl _) _;have hbk:U9 F w (w.drew.alloc (.cells cs e)):=U9.of_below hbl F;have hn1:(w.drew.alloc (.cells cs e)).heap[w.heap.size]?=some (.cells cs e (0,0)):=heap_alloc_new w.drew _;refine hk (F':=fun k=>k=w.heap.size) (Ja i.size _ (n+m) (xs++ys)) hbk ⟨⟨_,w.heap.size,0,cc,rfl,hcm,⟨hge,fun _=>rfl,fun _=>(Array.getElem?_eq_some_iff.1 hn1).1,hL,fun j u hj=>?_,fun j hj=>?_⟩,fun _=>rfl⟩,fun k e=>by subst e;exact(Array.getElem?_eq_some_iff.1 hn1).1⟩ (fun j hj=>.inr (by omega))
  ·rw[Nat.zero_add,(Z8 hn1 j).1,←hcs]
   have hj':=(List.getElem?_eq_some_iff.1 hj).1;rw[Array.getElem?_append_left (by simpa using hj'),List.getElem?_toArray];exact hj
  ·refine⟨?_,(Z8 hn1 _).2⟩
   rw[(Z8 hn1 _).1,Array.getElem?_eq_getElem]
   ·rfl
   ·rw[hsz2,Nat.zero_add]
    have:(n+m)*i.size+(cc-(n+m))*i.size=cc*i.size :=(by rw[←Nat.add_mul,show n+m+(cc-(n+m))=cc by omega]);omega
theorem Jw {A:Option Addr} {m c:Nat} {ys:List Value} {G:Nat→Prop} {z:Value} {bytes:Nat} {ops:Array Oper} {rest:List Oper} {o:Oper} {a:Act} {Q:Exit→Act→World→Prop} (t:TypeId) (h:St lo w0 w (Ja size v n xs::Rs)) (ht:prog.underlying t=some (.slice e)) (hi:(prog.info? e).map (fun i=>(i.zero,i.size,i.bytes))=some (some z,size,bytes)) (hzs:z.cells.size=size)
 (hr:Z9 w G A ys) (hyl:ys.length=m*size) (hsz:0<size) (hone:∀ u∈ys,u.oneCell'=true) (h63:n+m≤maxLen) (hbytes:(n+m)*bytes≤140737488355328)
 (hgd:o.guard=none) (s x:Operand) (ho:o.op=.call { callee:=.builtin .append,args:=#[s,x],argTypes:=#[t,t] }) (hs:a.eval s=v) (hx:a.eval x=.slice A m c)
 (hk:∀ A' c' w',St lo w0 w' (Ja size (.slice A' (n+m) c') (n+m) (xs++ys)::Rs)→wpList prog ops Q rest (a.put o.dst (.slice A' (n+m) c')) w'):wpList prog ops Q (o::rest) a w:=by
 refine wpList_plain hgd fun K hK'=>?_;obtain⟨A',c',w',hrun,r⟩:=h.qu_push (A:=A) (m:=m) (c:=c) t ht hi hzs hr hyl hsz hone h63 hbytes o.type;unfold Oper.wp;simp[execOp,ho,resolve,invoke,builtin,hs,hx,hrun,Result.andThen];exact hK' _ _ (hk A' c' w' r)
end
theorem Ow (t e:TypeId) {size:Nat} (ht:prog.underlying t=some (.slice e)) (h0:0<size) (hz:∀ w,(sizeOf e).run prog w=.ok size w) (b off n c:Nat):∃ B,(1<c→B=some ⟨b,off+size,none⟩)∧
 (∀ W,(Instr.sliceAt t (.slice (some ⟨b,off,none⟩) (n+1) c) (some (.int .i64 1)) none none).run prog W=.ok (.slice B n (c-1)) W)∧
 ∀ W,(Instr.slice t (.slice (some ⟨b,off,none⟩) (n+1) c) (some (.int .i64 1)) none none).run prog W=.ok (.slice B n (c-1)) W:=by
 have he:prog.elem t=e:=by simp[Program.elem,ht]
 have ht':prog.underlying t=some (.slice (prog.elem t)):=by rw[he,ht]
 have h2:∀ W,(Instr.slice t (.slice (some ⟨b,off,none⟩) (n+1) c) (some (.int .i64 1)) none none).run prog W=.ok (.slice (if c=1 then some ⟨b,off,none⟩ else some ⟨b,off+size,none⟩) n (c-1)) W:=fun W=>by
  rw[run_slice_l W t _ _ _ ht' .i64 1 (by decide) (by omega),he,hz];have hs:¬ size=0:=by omega
  simp[Result.andThen,sliced,Addr.add,hs]
 exact⟨if c=1 then some ⟨b,off,none⟩ else some ⟨b,off+size,none⟩,fun h=>if_neg (by omega),fun W=>by rw[run_sliceAt_slice W t _ _ _ _ ht',h2],h2⟩
end Go.Proofs.YtiefajiebebgoaaGreatDoor
namespace Go.Proofs.YtiefajiebebgoaaGreatDoor.Tm
set_option linter.unusedVariables false
def Dy (l:List Qu) (p:Qk):Option Qu:=l.find? fun u=>u.path==p
theorem atP_none {l:List Qu} {p:Qk} (h:∀ u∈l,u.path≠p):Dy l p=none:=List.find?_eq_none.2 fun u hu=>by have:=h u hu;simpa using this
theorem Kb {l:List Qu} {p:Qk} {t:Qu} (h:Dy l p=some t):t∈l∧t.path=p:=⟨List.mem_of_find?_eq_some h,by simpa using List.find?_some h⟩
theorem atP_mem {l:List Qu} (hs:G6 l) {t:Qu} (h:t∈l):Dy l t.path=some t:=by
 induction l with
 |nil=>cases h
 | cons u l ih=>
   obtain⟨h1,h2⟩:=List.pairwise_cons.1 hs;unfold Dy;rw[List.find?_cons];rcases List.mem_cons.1 h with rfl|h
   ·simp
   ·have hu:(u.path==t.path)=false:=by
     have:=h1 t h;refine Bool.eq_false_iff.2 fun e=>?_;rw[beq_iff_eq.1 e,Qs] at this
     cases this
    rw[hu];exact ih h2 h
theorem atP_putT (t:Qu) (p:Qk):∀ {l:List Qu},G6 l→Dy (Wn t l) p=if t.path=p then some (Xg ((Dy l p).getD t) t) else Dy l p
 | [],_=>by
   unfold Dy Wn;rw[List.find?_cons]
   by_cases hp:t.path=p
   ·rw[if_pos hp,show ((Xg t t).path==p)=true from beq_iff_eq.2 hp]
    rfl
   ·rw[if_neg hp,show ((Xg t t).path==p)=false from beq_eq_false_iff_ne.2 hp]
 | u :: l,hs=>by
   obtain⟨h1,h2⟩:=List.pairwise_cons.1 hs;rw[Wn]
   split
   ·rename_i e
    unfold Dy;rw[List.find?_cons,List.find?_cons]
    by_cases hp:t.path=p
    ·rw[if_pos hp,show ((Xg u t).path==p)=true from beq_iff_eq.2 (e.symm.trans hp),show (u.path==p)=true from beq_iff_eq.2 (e.symm.trans hp)]
     rfl
    ·rw[if_neg hp,show ((Xg u t).path==p)=false from beq_eq_false_iff_ne.2 (fun h=>hp (e.trans h)),show (u.path==p)=false from beq_eq_false_iff_ne.2 (fun h=>hp (e.trans h))]
   ·rename_i e
    split
    ·rename_i hlt
     by_cases hp:t.path=p
     ·rw[if_pos hp,atP_none (l:=u::l) (p:=p) (fun v hv=>?_)]
      ·unfold Dy
       rw[List.find?_cons,show ((Xg t t).path==p)=true from beq_iff_eq.2 hp];rfl
      ·subst hp
       intro hve;rcases List.mem_cons.1 hv with rfl|hv
       ·exact e hve.symm
       ·have:=Je _ _ _ hlt (h1 v hv)
        rw[hve,Qs] at this
        cases this
     ·rw[if_neg hp]
      unfold Dy;rw[List.find?_cons,show ((Xg t t).path==p)=false from beq_eq_false_iff_ne.2 hp]
    ·have ih:=atP_putT t p h2
     unfold Dy at ih ⊢;rw[List.find?_cons,List.find?_cons]
     by_cases hu:u.path=p
     ·rw[show (u.path==p)=true from beq_iff_eq.2 hu]
      dsimp only;rw[if_neg (fun h=>e (h.trans hu.symm))]
     ·rw[show (u.path==p)=false from beq_eq_false_iff_ne.2 hu]
      exact ih
theorem atP_snoc (l:List Qu) (t:Qu) (p:Qk):Dy (Zn (l++[t])) p=if t.path=p then some (Xg ((Dy (Zn l) p).getD t) t) else Dy (Zn l) p:=by unfold Zn;rw[List.foldl_append];exact atP_putT t p (Gr l [] List.Pairwise.nil)
theorem Fy (l:List Qu):G6 (Zn l):=Gr l [] List.Pairwise.nil
theorem Lt:∀ {l m:List Qu},G6 l→G6 m→(∀ c,c∈l↔c∈m)→l=m
 |[],[],_,_,_=>rfl
 | [],y::m,_,_,h=>by
   have:=(h y).2 (List.mem_cons_self ..)
   cases this
 | x::l,[],_,_,h=>by
   have:=(h x).1 (List.mem_cons_self ..)
   cases this
 | x :: l,y::m,hl,hm,h=>by
   obtain⟨h1,h2⟩:=List.pairwise_cons.1 hl;obtain⟨k1,k2⟩:=List.pairwise_cons.1 hm
   have e:x=y:=by
    rcases List.mem_cons.1 ((h x).1 (List.mem_cons_self ..)) with e|hx
    ·exact e
    ·rcases List.mem_cons.1 ((h y).2 (List.mem_cons_self ..)) with e|hy
     ·exact e.symm
     ·have:=Je _ _ _ (h1 y hy) (k1 x hx)
      rw[Qs] at this
      cases this
   subst e;rw[Lt h2 k2 fun c=>?_]
   have hn:∀ {r:List Qu},(∀ a∈r,Jr x.path a.path=true)→x∉r:=fun hr hx=>by
    have:=hr x hx;rw[Qs] at this
    cases this
   constructor
   ·intro hc
    rcases List.mem_cons.1 ((h c).1 (List.mem_cons_of_mem _ hc)) with rfl|hc'
    ·exact absurd hc (hn h1)
    ·exact hc'
   ·intro hc
    rcases List.mem_cons.1 ((h c).2 (List.mem_cons_of_mem _ hc)) with rfl|hc'
    ·exact absurd hc (hn k1)
    ·exact hc'
end Go.Proofs.YtiefajiebebgoaaGreatDoor.Tm
namespace Go.Proofs.YtiefajiebebgoaaGreatDoor
set_option linter.unusedVariables false
open Go.RowKit
theorem U6 {s:List Tm.Sp} (h:Tm.Jz 0 s):s.length≤4294967296:=by have:=h.len (by decide);omega
abbrev Xn:=Tm.Qu×Value
def X3 (t:Xn):List Value:=[.string ⟨t.1.path.toArray⟩,.bool t.1.abs,t.2]
def Zs (w:World) (F:Nat→Prop) (v:Value) (L:List Tm.Qu):Prop:=∃(A:Option Addr) (c:Nat) (M:List Xn),M.map Prod.fst=L∧v=.slice A M.length c∧M.length≤c∧c≤maxLen∧Z9 w F A (M.flatMap X3)∧∀ m∈M,Qr w F m.2 m.1.set
section
variable {w w':World} {F G:Nat→Prop} {v:Value} {L:List Tm.Qu}
theorem Zs.keep (h:Zs w F v L) (hk:Qm F w w'):Zs w' F v L:=by obtain⟨A,c,M,e0,e1,h1,h2,h3,h4⟩:=h;exact⟨A,c,M,e0,e1,h1,h2,h3.keep hk,fun m hm=>(h4 m hm).keep hk⟩
theorem Zs.below (h:Zs w F v L) (hb:Below w.heap.size w w'):Zs w' F v L:=h.keep (Qm.of_below hb)
theorem Zs.mono (h:Zs w F v L) (hF:∀ k,F k→G k):Zs w G v L:=by obtain⟨A,c,M,e0,e1,h1,h2,h3,h4⟩:=h;exact⟨A,c,M,e0,e1,h1,h2,h3.mono hF,fun m hm=>(h4 m hm).mono hF⟩
theorem Zs.nil (w:World) (F:Nat→Prop):Zs w F (.slice none 0 0) []:=⟨none,0,[],rfl,rfl,Nat.le_refl _,by decide,.inl rfl,fun m hm=>by cases hm⟩
theorem Zs.ltR (h:Zs w F v L):Zs w (fun k=>F k∧k<w.heap.size) v L:=by obtain⟨A,c,M,e0,e1,h1,h2,h3,h4⟩:=h;exact⟨A,c,M,e0,e1,h1,h2,h3.ltR,fun m hm=>(h4 m hm).lt⟩
theorem Zs.shape (h:Zs w F v L):∃ A c,v=.slice A L.length c∧L.length≤c∧c≤maxLen:=by obtain⟨A,c,M,rfl,rfl,h1,h2,h3,h4⟩:=h;rw[List.length_map];exact⟨A,c,rfl,h1,h2⟩
theorem Us {A:Option Addr} {M:List Xn} (h:Z9 w F A (M.flatMap X3)) {j:Nat} (hj:j<M.length):∃ b off,A=some ⟨b,off,none⟩∧b<w.heap.size∧w.cell? ⟨b,off+j*3,none⟩=some (.string ⟨M[j].1.path.toArray⟩)∧w.cell? ⟨b,off+j*3+1,none⟩=some (.bool M[j].1.abs)∧w.cell? ⟨b,off+j*3+2,none⟩=some M[j].2:=by obtain⟨b,off,e,_,h1,h2⟩:=h.get (fun _=>rfl) hj (k:=3) (by decide);exact⟨b,off,e,h1,h2 0 _ rfl,h2 1 _ rfl,h2 2 _ rfl⟩
end
def Yk (t:Tm.Qu):Prop:=t.set.length≤4294967296∧t.path.length≤4294967000
def Ud (w:World) (F:Nat→Prop) (M:Lit→Option Value) (L:List Tm.Qu):Prop:=∀ p:Tm.Qk,match Tm.Dy L p with
 |none=>M (.string p)=none
 |some t=>∃ v,M (.string p)=some (.agg #[.string ⟨p.toArray⟩,.bool t.abs,v])∧Qr w F v t.set
theorem Ud.keep {w w':World} {F:Nat→Prop} {M:Lit→Option Value} {L:List Tm.Qu} (h:Ud w F M L) (hk:Qm F w w'):Ud w' F M L:=fun p=>by
 have:=h p
 cases ha:Tm.Dy L p with
 |none =>rw[ha] at this;exact this
 |some t =>rw[ha] at this;obtain⟨v,h1,h2⟩:=this;exact⟨v,h1,h2.keep hk⟩
theorem Ud.mono {w:World} {F G:Nat→Prop} {M:Lit→Option Value} {L:List Tm.Qu} (h:Ud w F M L) (hF:∀ k,F k→G k):Ud w G M L:=fun p=>by
 have:=h p
 cases ha:Tm.Dy L p with
 |none =>rw[ha] at this;exact this
 |some t =>rw[ha] at this;obtain⟨v,h1,h2⟩:=this;exact⟨v,h1,h2.mono hF⟩
theorem Ud.nil (w:World) (F:Nat→Prop):Ud w F (fun _=>none) []:=fun p=>rfl
theorem Ud.put {w:World} {F:Nat→Prop} {M:Lit→Option Value} {l:List Tm.Qu} {t:Tm.Qu} {v:Value} (h:Ud w F M (Tm.Zn l)) (hv:Qr w F v (Tm.Xg ((Tm.Dy (Tm.Zn l) t.path).getD t) t).set):
 Ud w F (Jq M (.string t.path) (.agg #[.string ⟨t.path.toArray⟩,.bool (Tm.Xg ((Tm.Dy (Tm.Zn l) t.path).getD t) t).abs,v])) (Tm.Zn (l++[t])):=fun p=>by
 rw[Tm.atP_snoc]
 by_cases hp:t.path=p
 ·subst hp
  rw[if_pos rfl];exact⟨v,Zd _ _ _,hv⟩
 ·rw[if_neg hp,Qz (fun e=>hp (Lit.string.inj e).symm)]
  exact h p
open Go.RowKit Go.Shelf
attribute [local go_sem] Oper.semAt_some
theorem Xs:(prog.info? 248).map (·.size)=some 3:=by kernel_rfl
theorem Jc {P:Program} {fn:Func} {p:Tmp} {ty:TypeId} (h:fn.results=#[.cell p ty]) (tmps:Array Value) (w:World) (g:Nat) (t:TypeId) (cs:Array Value) (fr:Nat×Nat) (d:TypeDesc)
 (hp:tmps.getD p undef=.pointer (some ⟨g,0,none⟩)) (hg:w.heap[g]?=some (.cells cs t fr)) (hu:P.underlying ty=some d) (hd:(match d with|.struct _|.array _ _=>true|_=>false)=true) (hi:(P.info? ty).map (·.size)=some cs.size):
 (results fn tmps).run P w=.ok (.agg cs) w:=by
 have hp':tmps[p]?.getD undef=.pointer (some ⟨g,0,none⟩):=by simpa using hp
 simp[results,h,hp',asAddr,run_loadVar_row w g t ty cs fr d hg hu hd hi]
theorem Hm {P:Program} {fn:Func} {p u v:Tmp} {ty:TypeId} (h:fn.results=#[.cell p ty,.tmp u,.tmp v]) (tmps:Array Value) (w:World) (g:Nat) (t:TypeId) (cs:Array Value) (fr:Nat×Nat) (d:TypeDesc)
 (hp:tmps.getD p undef=.pointer (some ⟨g,0,none⟩)) (hg:w.heap[g]?=some (.cells cs t fr)) (hu:P.underlying ty=some d) (hd:(match d with|.struct _|.array _ _=>true|_=>false)=true) (hi:(P.info? ty).map (·.size)=some cs.size):
 (results fn tmps).run P w=.ok (.tuple #[.agg cs,tmps.getD u undef,tmps.getD v undef]) w:=by
 have hp':tmps[p]?.getD undef=.pointer (some ⟨g,0,none⟩):=by simpa using hp
 simp[results,h,hp',asAddr,run_loadVar_row w g t ty cs fr d hg hu hd hi]
theorem Jv {P:Program} {fn:Func} {p u:Tmp} {ty:TypeId} (h:fn.results=#[.cell p ty,.tmp u]) (tmps:Array Value) (w:World) (g:Nat) (t:TypeId) (cs:Array Value) (fr:Nat×Nat) (d:TypeDesc)
 (hp:tmps.getD p undef=.pointer (some ⟨g,0,none⟩)) (hg:w.heap[g]?=some (.cells cs t fr)) (hu:P.underlying ty=some d) (hd:(match d with|.struct _|.array _ _=>true|_=>false)=true) (hi:(P.info? ty).map (·.size)=some cs.size):
 (results fn tmps).run P w=.ok (.tuple #[.agg cs,tmps.getD u undef]) w:=by
 have hp':tmps[p]?.getD undef=.pointer (some ⟨g,0,none⟩):=by simpa using hp
 simp[results,h,hp',asAddr,run_loadVar_row w g t ty cs fr d hg hu hd hi]
theorem both_spec (p q:Tm.Qk) (x y:Bool) (s t:List Tm.Sp) (v u:Value) (F G:Nat→Prop) (w:World) (hs:Qr w F v s) (ht:Qr w G u t) (ls:s.length≤4294967296) (lt:t.length≤4294967296):
 Calls prog 255 #[.agg #[.string ⟨p.toArray⟩,.bool x,v],.agg #[.string ⟨q.toArray⟩,.bool y,u]] w fun e w'=>∃ v',e=.returned (.agg #[.string ⟨p.toArray⟩,.bool (x&&y),v'])∧Below w.heap.size w w'∧Qr w' (fun k=>w.heap.size≤k) v' (Tm.Xd s t):=by
 obtain⟨A1,n1,c1,rfl⟩:=hs.shape;obtain⟨A2,n2,c2,rfl⟩:=ht.shape;obtain⟨W1,hW1⟩:∃ W1,w.alloc (.cells #[.string ⟨p.toArray⟩,.bool x,.slice A1 n1 c1] 248)=W1:=⟨_,rfl⟩;have y1:=(St.nil w).alloc 248 #[.string ⟨p.toArray⟩,.bool x,.slice A1 n1 c1];rw[hW1] at y1;obtain⟨W2,hW2⟩:∃ W2,W1.alloc (.cells #[.string ⟨q.toArray⟩,.bool y,.slice A2 n2 c2] 248)=W2:=⟨_,rfl⟩;have y2:=y1.alloc 248 #[.string ⟨q.toArray⟩,.bool y,.slice A2 n2 c2];rw[hW2] at y2;have l2:W1.heap.size<W2.heap.size:=by rw[←hW2];simp
 have l1:w.heap.size<W2.heap.size:=Nat.lt_of_lt_of_le (by rw[←hW1];simp) (Nat.le_of_lt l2);obtain⟨W3,hW3⟩:∃ W3,W2.alloc (.cells #[.string ⟨#[]⟩,.bool false,.slice none 0 0] 248)=W3:=⟨_,rfl⟩;have y3:=y2.alloc 248 #[.string ⟨#[]⟩,.bool false,.slice none 0 0];rw[hW3] at y3;have hS:∀ W',Below W2.heap.size W3 W'→W'.cell? ⟨w.heap.size,0,none⟩=some (.string ⟨p.toArray⟩)∧W'.cell? ⟨w.heap.size,1,none⟩=some (.bool x)∧W'.cell? ⟨w.heap.size,2,none⟩=some (.slice A1 n1 c1)∧W'.cell? ⟨W1.heap.size,1,none⟩=some (.bool y)∧W'.cell? ⟨W1.heap.size,2,none⟩=some (.slice A2 n2 c2):=fun W' hb=>by have a:=y3.tail.blk;have b:=y3.tail.tail.blk;exact⟨(hb.cell l1).trans (b.cell 0),(hb.cell (p:=⟨w.heap.size,1,none⟩) l1).trans (b.cell 1),(hb.cell (p:=⟨w.heap.size,2,none⟩) l1).trans (b.cell 2),(hb.cell (p:=⟨W1.heap.size,1,none⟩) l2).trans (a.cell 1),(hb.cell (p:=⟨W1.heap.size,2,none⟩) l2).trans (a.cell 2)⟩
 have ki:∀ W' Wd,Below W3.heap.size W3 W'→Below (W'.alloc (.cells #[.slice A1 n1 c1,.slice A2 n2 c2] 41)).heap.size (W'.alloc (.cells #[.slice A1 n1 c1,.slice A2 n2 c2] 41)) Wd→Calls prog 87 #[.slice (some ⟨W'.heap.size,0,none⟩) 2 2] Wd fun e w'=>∃ v',e=.returned v'∧Below W3.heap.size W3 w'∧Qr w' (fun k=>w.heap.size≤k∧k≠W2.heap.size) v' (Tm.Xd s t):=fun W' Wd hb hd=>by
  have z:=y3.under hb;refine(Tk s t _ _ _ ((sets2 (te:=41) (hs.below z.below).any (ht.below z.below).any).keep (Qm.of_below hd)) ls lt).mono ?_;rintro e w' ⟨v',rfl,z2,h2⟩;have hsz:W3.heap.size≤(W'.alloc (.cells #[.slice A1 n1 c1,.slice A2 n2 c2] 41)).heap.size:=by have:=hb.size;simp;omega
  refine⟨v',rfl,(((hb.alloc hb.size _).trans (hd.mono hsz)).trans (z2.mono (Nat.le_trans hsz hd.size))),h2.mono fun k hk=>?_⟩;have:=y2.below.size;have h3:W2.heap.size+1=W3.heap.size:=by rw[←hW3];simp
  have:=hd.size;constructor<;>omega
 have HS:=Kd hS;have KI:=Kd ki;have Y3:=Kd y3;have r0:Below W2.heap.size W3 W3:=Below.refl _ _;have r1:=Below.refl W3.heap.size W3;have l3:W2.heap.size≤W3.heap.size:=by rw[←hW3];simp
 clear hs ht y1 y2 y3 hS ki ls lt l1 l2
 cases x
 case false=>
  go_enter func255,ntmps255;go_wp2_with fail;clear hW1 hW2 hW3;refine wp_region_noPanic ?_;refine wp_region_held_drew (S:=(fun W'=>W'.cell? ⟨w.heap.size,0,none⟩=some (.string ⟨p.toArray⟩)∧W'.cell? ⟨w.heap.size,1,none⟩=some (.bool false)∧W'.cell? ⟨w.heap.size,2,none⟩=some (.slice A1 n1 c1)∧W'.cell? ⟨W1.heap.size,1,none⟩=some (.bool y)∧W'.cell? ⟨W1.heap.size,2,none⟩=some (.slice A2 n2 c2))) (by kernel_rfl) ?_ (fun hH0=>?_)
  ·exact HS.out _ r0.drew
  refine tk 0 5 hH0 ?_;refine tk 1 6 hH0 ?_;refine tk 2 7 hH0 ?_;refine tk 3 8 hH0 ?_;refine tk 4 9 hH0 ?_;refine tu 5 10 hH0 ?_;refine tu 6 11 hH0 ?_;refine tk 7 12 hH0 ?_;refine tk 8 13 hH0 ?_;refine tk 9 14 hH0 ?_;refine tk 10 15 hH0 ?_;refine tk 11 16 hH0 ?_;refine Zk [12] ?_;refine an 17 fun K hK=>?_;go_simp;refine hK.out _ _ ?_ (fun hH1=>?_)
  ·exact HS.out _ (r0.alloc l3 _).drew
  clear hK K hH0
  try simp only[pu]
  refine Zk [13] ?_;refine an 18 fun K hK=>?_
  go_simp;(
   with_reducible refine(KI.out _ _ r1 (Below.refl _ _).drew).mono ?_
   rintro e w4 ⟨v4,rfl,z4,s4⟩;have r2:Below W2.heap.size W3 w4:=z4.mono l3;have y4:=Y3.out.under z4;obtain⟨f0,f1,f2,f3,f4,f5⟩:=G4 y4.blk
   obtain⟨A4,n4,c4,rfl⟩:=s4.shape);go_wp2_with fail
  refine hK.out _ _ ?_ (fun hH2=>?_)
  ·exact HS.out _ r2
  clear hK K hH1
  try simp only[pu]
  refine tk 14 19 hH2 ?_;refine Zk [15] ?_;refine az fun K hK=>?_;go_simp;refine hK.out _ _ ?_ (fun hH3=>?_)
  ·exact HS.out _ (((r2.setCell (Nat.le_refl _) _).setCell (Nat.le_refl _) _).setCell (Nat.le_refl _) _)
  clear hK K hH2
  try simp only[pu]
  refine dn ?_ _
  all_goals(refine NoPanic.normal ?_)
  have y5:=((y4.set_ 0 (.string ⟨p.toArray⟩)).set_ 1 (.bool false)).set_ 2 (.slice A4 n4 c4);simp only[List.setIfInBounds_toArray,List.set_cons_zero,List.set_cons_succ] at y5
  have hk:Qm (fun k=>w.heap.size≤k∧k≠W2.heap.size) w4 (((w4.setCell ⟨W2.heap.size,0,none⟩ (.string ⟨p.toArray⟩)).setCell ⟨W2.heap.size,1,none⟩ (.bool false)).setCell ⟨W2.heap.size,2,none⟩ (.slice A4 n4 c4)):=
   Qm.of_mod ((((Jp w4 W2.heap.size 0 _).trans (Jp _ W2.heap.size 1 _)).trans (Jp _ W2.heap.size 2 _))) (fun k hk e=>hk.2 e)
  have s5:=(s4.keep hk).mono (G:=fun k=>w.heap.size≤k) (fun k hk=>hk.1);have Y5:=Kd2 y5 s5;clear hk s5 y5 s4 z4 y4 f0 f1 f2 f3 f4 f5 r0 r1 r2 HS KI Y3;generalize (((w4.setCell ⟨W2.heap.size,0,none⟩ (.string ⟨p.toArray⟩)).setCell ⟨W2.heap.size,1,none⟩ (.bool false)).setCell ⟨W2.heap.size,2,none⟩ (.slice A4 n4 c4))=w5 at Y5 ⊢;go_wp2;refine bodyPost_ret (Jc rfl _ _ _ _ _ _ _ rfl Y5.out.1.blk underlying248 rfl Xs) rfl ?_;exact⟨_,rfl,Y5.out.1.below,Y5.out.2⟩
 case true=>
  go_enter func255,ntmps255;go_wp2_with fail;clear hW1 hW2 hW3;refine wp_region_noPanic ?_;refine wp_region_held_drew (S:=(fun W'=>W'.cell? ⟨w.heap.size,0,none⟩=some (.string ⟨p.toArray⟩)∧W'.cell? ⟨w.heap.size,1,none⟩=some (.bool true)∧W'.cell? ⟨w.heap.size,2,none⟩=some (.slice A1 n1 c1)∧W'.cell? ⟨W1.heap.size,1,none⟩=some (.bool y)∧W'.cell? ⟨W1.heap.size,2,none⟩=some (.slice A2 n2 c2))) (by kernel_rfl) ?_ (fun hH0=>?_)
  ·exact HS.out _ r0.drew
  refine tk 0 5 hH0 ?_;refine tk 1 6 hH0 ?_;refine tk 2 7 hH0 ?_;refine tk 3 8 hH0 ?_;refine tk 4 9 hH0 ?_;refine tk 5 10 hH0 ?_;refine tk 6 11 hH0 ?_;refine tk 7 12 hH0 ?_;refine tk 8 13 hH0 ?_;refine tk 9 14 hH0 ?_;refine tk 10 15 hH0 ?_;refine tk 11 16 hH0 ?_;refine Zk [12] ?_;refine an 17 fun K hK=>?_;go_simp;refine hK.out _ _ ?_ (fun hH1=>?_)
  ·exact HS.out _ (r0.alloc l3 _).drew
  clear hK K hH0
  try simp only[pu]
  refine Zk [13] ?_;refine an 18 fun K hK=>?_
  go_simp;(
   with_reducible refine(KI.out _ _ r1 (Below.refl _ _).drew).mono ?_
   rintro e w4 ⟨v4,rfl,z4,s4⟩;have r2:Below W2.heap.size W3 w4:=z4.mono l3;have y4:=Y3.out.under z4;obtain⟨f0,f1,f2,f3,f4,f5⟩:=G4 y4.blk
   obtain⟨A4,n4,c4,rfl⟩:=s4.shape);go_wp2_with fail
  refine hK.out _ _ ?_ (fun hH2=>?_)
  ·exact HS.out _ r2
  clear hK K hH1
  try simp only[pu]
  refine tk 14 19 hH2 ?_;refine Zk [15] ?_;refine az fun K hK=>?_;go_simp;refine hK.out _ _ ?_ (fun hH3=>?_)
  ·exact HS.out _ (((r2.setCell (Nat.le_refl _) _).setCell (Nat.le_refl _) _).setCell (Nat.le_refl _) _)
  clear hK K hH2
  try simp only[pu]
  refine dn ?_ _
  all_goals(refine NoPanic.normal ?_)
  have y5:=((y4.set_ 0 (.string ⟨p.toArray⟩)).set_ 1 (.bool y)).set_ 2 (.slice A4 n4 c4);simp only[List.setIfInBounds_toArray,List.set_cons_zero,List.set_cons_succ] at y5
  have hk:Qm (fun k=>w.heap.size≤k∧k≠W2.heap.size) w4 (((w4.setCell ⟨W2.heap.size,0,none⟩ (.string ⟨p.toArray⟩)).setCell ⟨W2.heap.size,1,none⟩ (.bool y)).setCell ⟨W2.heap.size,2,none⟩ (.slice A4 n4 c4)):=
   Qm.of_mod ((((Jp w4 W2.heap.size 0 _).trans (Jp _ W2.heap.size 1 _)).trans (Jp _ W2.heap.size 2 _))) (fun k hk e=>hk.2 e)
  have s5:=(s4.keep hk).mono (G:=fun k=>w.heap.size≤k) (fun k hk=>hk.1);have Y5:=Kd2 y5 s5;clear hk s5 y5 s4 z4 y4 f0 f1 f2 f3 f4 f5 r0 r1 r2 HS KI Y3;generalize (((w4.setCell ⟨W2.heap.size,0,none⟩ (.string ⟨p.toArray⟩)).setCell ⟨W2.heap.size,1,none⟩ (.bool y)).setCell ⟨W2.heap.size,2,none⟩ (.slice A4 n4 c4))=w5 at Y5 ⊢;go_wp2;refine bodyPost_ret (Jc rfl _ _ _ _ _ _ _ rfl Y5.out.1.blk underlying248 rfl Xs) rfl ?_;exact⟨_,rfl,Y5.out.1.below,Y5.out.2⟩
theorem either_spec (p q:Tm.Qk) (x y:Bool) (s t:List Tm.Sp) (v u:Value) (F G:Nat→Prop) (w:World) (hs:Qr w F v s) (ht:Qr w G u t) (ls:s.length≤4294967296) (lt:t.length≤4294967296):
 Calls prog 208 #[.agg #[.string ⟨p.toArray⟩,.bool x,v],.agg #[.string ⟨q.toArray⟩,.bool y,u]] w fun e w'=>∃ v',e=.returned (.agg #[.string ⟨p.toArray⟩,.bool (x||y),v'])∧Below w.heap.size w w'∧Qr w' (fun k=>w.heap.size≤k) v' (Tm.Yh s t):=by
 obtain⟨A1,n1,c1,rfl⟩:=hs.shape;obtain⟨A2,n2,c2,rfl⟩:=ht.shape;obtain⟨W1,hW1⟩:∃ W1,w.alloc (.cells #[.string ⟨p.toArray⟩,.bool x,.slice A1 n1 c1] 248)=W1:=⟨_,rfl⟩;have y1:=(St.nil w).alloc 248 #[.string ⟨p.toArray⟩,.bool x,.slice A1 n1 c1];rw[hW1] at y1;obtain⟨W2,hW2⟩:∃ W2,W1.alloc (.cells #[.string ⟨q.toArray⟩,.bool y,.slice A2 n2 c2] 248)=W2:=⟨_,rfl⟩;have y2:=y1.alloc 248 #[.string ⟨q.toArray⟩,.bool y,.slice A2 n2 c2];rw[hW2] at y2;have l2:W1.heap.size<W2.heap.size:=by rw[←hW2];simp
 have l1:w.heap.size<W2.heap.size:=Nat.lt_of_lt_of_le (by rw[←hW1];simp) (Nat.le_of_lt l2);obtain⟨W3,hW3⟩:∃ W3,W2.alloc (.cells #[.string ⟨#[]⟩,.bool false,.slice none 0 0] 248)=W3:=⟨_,rfl⟩;have y3:=y2.alloc 248 #[.string ⟨#[]⟩,.bool false,.slice none 0 0];rw[hW3] at y3;have hS:∀ W',Below W2.heap.size W3 W'→W'.cell? ⟨w.heap.size,0,none⟩=some (.string ⟨p.toArray⟩)∧W'.cell? ⟨w.heap.size,1,none⟩=some (.bool x)∧W'.cell? ⟨w.heap.size,2,none⟩=some (.slice A1 n1 c1)∧W'.cell? ⟨W1.heap.size,1,none⟩=some (.bool y)∧W'.cell? ⟨W1.heap.size,2,none⟩=some (.slice A2 n2 c2):=fun W' hb=>by have a:=y3.tail.blk;have b:=y3.tail.tail.blk;exact⟨(hb.cell l1).trans (b.cell 0),(hb.cell (p:=⟨w.heap.size,1,none⟩) l1).trans (b.cell 1),(hb.cell (p:=⟨w.heap.size,2,none⟩) l1).trans (b.cell 2),(hb.cell (p:=⟨W1.heap.size,1,none⟩) l2).trans (a.cell 1),(hb.cell (p:=⟨W1.heap.size,2,none⟩) l2).trans (a.cell 2)⟩
 have ki:∀ W' Wd,Below W3.heap.size W3 W'→Below (W'.alloc (.cells #[.slice A1 n1 c1,.slice A2 n2 c2] 41)).heap.size (W'.alloc (.cells #[.slice A1 n1 c1,.slice A2 n2 c2] 41)) Wd→Calls prog 260 #[.slice (some ⟨W'.heap.size,0,none⟩) 2 2] Wd fun e w'=>∃ v',e=.returned v'∧Below W3.heap.size W3 w'∧Qr w' (fun k=>w.heap.size≤k∧k≠W2.heap.size) v' (Tm.Yh s t):=fun W' Wd hb hd=>by
  have z:=y3.under hb;refine(union_spec s t _ _ _ ((sets2 (te:=41) (hs.below z.below).any (ht.below z.below).any).keep (Qm.of_below hd)) ls lt).mono ?_;rintro e w' ⟨v',rfl,z2,h2⟩;have hsz:W3.heap.size≤(W'.alloc (.cells #[.slice A1 n1 c1,.slice A2 n2 c2] 41)).heap.size:=by have:=hb.size;simp;omega
  refine⟨v',rfl,(((hb.alloc hb.size _).trans (hd.mono hsz)).trans (z2.mono (Nat.le_trans hsz hd.size))),h2.mono fun k hk=>?_⟩;have:=y2.below.size;have h3:W2.heap.size+1=W3.heap.size:=by rw[←hW3];simp
  have:=hd.size;constructor<;>omega
 have HS:=Kd hS;have KI:=Kd ki;have Y3:=Kd y3;have r0:Below W2.heap.size W3 W3:=Below.refl _ _;have r1:=Below.refl W3.heap.size W3;have l3:W2.heap.size≤W3.heap.size:=by rw[←hW3];simp
 clear hs ht y1 y2 y3 hS ki ls lt l1 l2
 cases x
 case false=>
  go_enter func208,ntmps208;go_wp2_with fail;clear hW1 hW2 hW3;refine wp_region_noPanic ?_;refine wp_region_held_drew (S:=(fun W'=>W'.cell? ⟨w.heap.size,0,none⟩=some (.string ⟨p.toArray⟩)∧W'.cell? ⟨w.heap.size,1,none⟩=some (.bool false)∧W'.cell? ⟨w.heap.size,2,none⟩=some (.slice A1 n1 c1)∧W'.cell? ⟨W1.heap.size,1,none⟩=some (.bool y)∧W'.cell? ⟨W1.heap.size,2,none⟩=some (.slice A2 n2 c2))) (by kernel_rfl) ?_ (fun hH0=>?_)
  ·exact HS.out _ r0.drew
  refine tk 0 5 hH0 ?_;refine tk 1 6 hH0 ?_;refine tk 2 7 hH0 ?_;refine tk 3 8 hH0 ?_;refine tk 4 9 hH0 ?_;refine tk 5 10 hH0 ?_;refine tk 6 11 hH0 ?_;refine tk 7 12 hH0 ?_;refine tk 8 13 hH0 ?_;refine tk 9 14 hH0 ?_;refine tk 10 15 hH0 ?_;refine tk 11 16 hH0 ?_;refine Zk [12] ?_;refine an 17 fun K hK=>?_;go_simp;refine hK.out _ _ ?_ (fun hH1=>?_)
  ·exact HS.out _ (r0.alloc l3 _).drew
  clear hK K hH0
  try simp only[pu]
  refine Zk [13] ?_;refine an 18 fun K hK=>?_
  go_simp;(
   with_reducible refine(KI.out _ _ r1 (Below.refl _ _).drew).mono ?_
   rintro e w4 ⟨v4,rfl,z4,s4⟩;have r2:Below W2.heap.size W3 w4:=z4.mono l3;have y4:=Y3.out.under z4;obtain⟨f0,f1,f2,f3,f4,f5⟩:=G4 y4.blk
   obtain⟨A4,n4,c4,rfl⟩:=s4.shape);go_wp2_with fail
  refine hK.out _ _ ?_ (fun hH2=>?_)
  ·exact HS.out _ r2
  clear hK K hH1
  try simp only[pu]
  refine tk 14 19 hH2 ?_;refine Zk [15] ?_;refine az fun K hK=>?_;go_simp;refine hK.out _ _ ?_ (fun hH3=>?_)
  ·exact HS.out _ (((r2.setCell (Nat.le_refl _) _).setCell (Nat.le_refl _) _).setCell (Nat.le_refl _) _)
  clear hK K hH2
  try simp only[pu]
  refine dn ?_ _
  all_goals(refine NoPanic.normal ?_)
  have y5:=((y4.set_ 0 (.string ⟨p.toArray⟩)).set_ 1 (.bool y)).set_ 2 (.slice A4 n4 c4);simp only[List.setIfInBounds_toArray,List.set_cons_zero,List.set_cons_succ] at y5
  have hk:Qm (fun k=>w.heap.size≤k∧k≠W2.heap.size) w4 (((w4.setCell ⟨W2.heap.size,0,none⟩ (.string ⟨p.toArray⟩)).setCell ⟨W2.heap.size,1,none⟩ (.bool y)).setCell ⟨W2.heap.size,2,none⟩ (.slice A4 n4 c4)):=
   Qm.of_mod ((((Jp w4 W2.heap.size 0 _).trans (Jp _ W2.heap.size 1 _)).trans (Jp _ W2.heap.size 2 _))) (fun k hk e=>hk.2 e)
  have s5:=(s4.keep hk).mono (G:=fun k=>w.heap.size≤k) (fun k hk=>hk.1);have Y5:=Kd2 y5 s5;clear hk s5 y5 s4 z4 y4 f0 f1 f2 f3 f4 f5 r0 r1 r2 HS KI Y3;generalize (((w4.setCell ⟨W2.heap.size,0,none⟩ (.string ⟨p.toArray⟩)).setCell ⟨W2.heap.size,1,none⟩ (.bool y)).setCell ⟨W2.heap.size,2,none⟩ (.slice A4 n4 c4))=w5 at Y5 ⊢;go_wp2;refine bodyPost_ret (Jc rfl _ _ _ _ _ _ _ rfl Y5.out.1.blk underlying248 rfl Xs) rfl ?_;exact⟨_,rfl,Y5.out.1.below,Y5.out.2⟩
 case true=>
  go_enter func208,ntmps208;go_wp2_with fail;clear hW1 hW2 hW3;refine wp_region_noPanic ?_;refine wp_region_held_drew (S:=(fun W'=>W'.cell? ⟨w.heap.size,0,none⟩=some (.string ⟨p.toArray⟩)∧W'.cell? ⟨w.heap.size,1,none⟩=some (.bool true)∧W'.cell? ⟨w.heap.size,2,none⟩=some (.slice A1 n1 c1)∧W'.cell? ⟨W1.heap.size,1,none⟩=some (.bool y)∧W'.cell? ⟨W1.heap.size,2,none⟩=some (.slice A2 n2 c2))) (by kernel_rfl) ?_ (fun hH0=>?_)
  ·exact HS.out _ r0.drew
  refine tk 0 5 hH0 ?_;refine tk 1 6 hH0 ?_;refine tk 2 7 hH0 ?_;refine tk 3 8 hH0 ?_;refine tk 4 9 hH0 ?_;refine tu 5 10 hH0 ?_;refine tu 6 11 hH0 ?_;refine tk 7 12 hH0 ?_;refine tk 8 13 hH0 ?_;refine tk 9 14 hH0 ?_;refine tk 10 15 hH0 ?_;refine tk 11 16 hH0 ?_;refine Zk [12] ?_;refine an 17 fun K hK=>?_;go_simp;refine hK.out _ _ ?_ (fun hH1=>?_)
  ·exact HS.out _ (r0.alloc l3 _).drew
  clear hK K hH0
  try simp only[pu]
  refine Zk [13] ?_;refine an 18 fun K hK=>?_
  go_simp;(
   with_reducible refine(KI.out _ _ r1 (Below.refl _ _).drew).mono ?_
   rintro e w4 ⟨v4,rfl,z4,s4⟩;have r2:Below W2.heap.size W3 w4:=z4.mono l3;have y4:=Y3.out.under z4;obtain⟨f0,f1,f2,f3,f4,f5⟩:=G4 y4.blk
   obtain⟨A4,n4,c4,rfl⟩:=s4.shape);go_wp2_with fail
  refine hK.out _ _ ?_ (fun hH2=>?_)
  ·exact HS.out _ r2
  clear hK K hH1
  try simp only[pu]
  refine tk 14 19 hH2 ?_;refine Zk [15] ?_;refine az fun K hK=>?_;go_simp;refine hK.out _ _ ?_ (fun hH3=>?_)
  ·exact HS.out _ (((r2.setCell (Nat.le_refl _) _).setCell (Nat.le_refl _) _).setCell (Nat.le_refl _) _)
  clear hK K hH2
  try simp only[pu]
  refine dn ?_ _
  all_goals(refine NoPanic.normal ?_)
  have y5:=((y4.set_ 0 (.string ⟨p.toArray⟩)).set_ 1 (.bool true)).set_ 2 (.slice A4 n4 c4);simp only[List.setIfInBounds_toArray,List.set_cons_zero,List.set_cons_succ] at y5
  have hk:Qm (fun k=>w.heap.size≤k∧k≠W2.heap.size) w4 (((w4.setCell ⟨W2.heap.size,0,none⟩ (.string ⟨p.toArray⟩)).setCell ⟨W2.heap.size,1,none⟩ (.bool true)).setCell ⟨W2.heap.size,2,none⟩ (.slice A4 n4 c4)):=
   Qm.of_mod ((((Jp w4 W2.heap.size 0 _).trans (Jp _ W2.heap.size 1 _)).trans (Jp _ W2.heap.size 2 _))) (fun k hk e=>hk.2 e)
  have s5:=(s4.keep hk).mono (G:=fun k=>w.heap.size≤k) (fun k hk=>hk.1);have Y5:=Kd2 y5 s5;clear hk s5 y5 s4 z4 y4 f0 f1 f2 f3 f4 f5 r0 r1 r2 HS KI Y3;generalize (((w4.setCell ⟨W2.heap.size,0,none⟩ (.string ⟨p.toArray⟩)).setCell ⟨W2.heap.size,1,none⟩ (.bool true)).setCell ⟨W2.heap.size,2,none⟩ (.slice A4 n4 c4))=w5 at Y5 ⊢;go_wp2;refine bodyPost_ret (Jc rfl _ _ _ _ _ _ _ rfl Y5.out.1.blk underlying248 rfl Xs) rfl ?_;exact⟨_,rfl,Y5.out.1.below,Y5.out.2⟩
theorem never_spec (p:Tm.Qk) (x:Bool) (s:List Tm.Sp) (v:Value) (F:Nat→Prop) (w:World) (hs:Qr w F v s) (ls:s.length≤4294967296):
 Calls prog 256 #[.agg #[.string ⟨p.toArray⟩,.bool x,v]] w fun e w'=>e=.returned (.bool (Tm.Ws ⟨p,x,s⟩))∧Below w.heap.size w w':=by
 obtain⟨A1,n1,c1,rfl⟩:=hs.shape;obtain⟨W1,hW1⟩:∃ W1,w.alloc (.cells #[.string ⟨p.toArray⟩,.bool x,.slice A1 n1 c1] 248)=W1:=⟨_,rfl⟩;have y1:=(St.nil w).alloc 248 #[.string ⟨p.toArray⟩,.bool x,.slice A1 n1 c1];rw[hW1] at y1;obtain⟨f0,f1,f2,f3,f4,f5⟩:=G4 y1.blk;have k:=Wh s _ _ W1 (hs.below y1.below) ls
 have hr:Tm.Ws ⟨p,x,s⟩=(!x&&decide ((Tm.Q9 s).length=0)):=by
  unfold Tm.Ws;dsimp only
  congr 1
  cases Tm.Q9 s<;>simp
 rw[hr];obtain⟨n,hn⟩:∃ n,(Tm.Q9 s).length=n:=⟨_,rfl⟩;rw[hn];have e0:((n:Int)==0)=decide (n=0):=by rw[Bool.eq_iff_iff];simp
 have Z1:=Kd y1.below;clear hs y1 hr
 cases x with
 |true =>clear k;go_enter func256,ntmps256;go_wp2;go_ret;exact⟨rfl,Z1.out⟩
 |false =>go_enter func256,ntmps256;go_wp2_with fail;refine k.mono ?_;rintro e w1 ⟨v1,rfl,x1,⟨A,c,rfl,-,-,-⟩⟩;have X1:=Kd (Z1.out.trans (x1.mono Z1.out.size));clear k x1;rw[hn];clear hn;go_wp2;go_ret;exact⟨rfl,X1.out⟩
theorem always_spec (p:Tm.Qk) (x:Bool) (s:List Tm.Sp) (v:Value) (F:Nat→Prop) (w:World) (hs:Qr w F v s) (ls:s.length≤4294967296):
 Calls prog 257 #[.agg #[.string ⟨p.toArray⟩,.bool x,v]] w fun e w'=>e=.returned (.bool (Tm.Wv ⟨p,x,s⟩))∧Below w.heap.size w w':=by
 obtain⟨A1,n1,c1,rfl⟩:=hs.shape;obtain⟨W1,hW1⟩:∃ W1,w.alloc (.cells #[.string ⟨p.toArray⟩,.bool x,.slice A1 n1 c1] 248)=W1:=⟨_,rfl⟩;have y1:=(St.nil w).alloc 248 #[.string ⟨p.toArray⟩,.bool x,.slice A1 n1 c1];rw[hW1] at y1;obtain⟨f0,f1,f2,f3,f4,f5⟩:=G4 y1.blk;have k:=Kz s _ _ W1 (hs.below y1.below) ls
 have hr:Tm.Wv ⟨p,x,s⟩=(x&&decide ((Tm.Zc s).length=0)):=by
  unfold Tm.Wv;dsimp only
  congr 1
  cases Tm.Zc s<;>simp
 rw[hr];obtain⟨n,hn⟩:∃ n,(Tm.Zc s).length=n:=⟨_,rfl⟩;rw[hn];have e0:((n:Int)==0)=decide (n=0):=by rw[Bool.eq_iff_iff];simp
 have Z1:=Kd y1.below;clear hs y1 hr
 cases x with
 |false =>clear k;go_enter func257,ntmps257;go_wp2;go_ret;exact⟨rfl,Z1.out⟩
 |true =>go_enter func257,ntmps257;go_wp2_with fail;refine k.mono ?_;rintro e w1 ⟨v1,rfl,x1,⟨A,c,rfl,-,-,-⟩⟩;have X1:=Kd (Z1.out.trans (x1.mono Z1.out.size));clear k x1;rw[hn];clear hn;go_wp2;go_ret;exact⟨rfl,X1.out⟩
def tmR (M:Lit→Option Value) (L:List Tm.Qu):Q3 where
 P w F:=Ud w F M L∧∀ k,F k→k<w.heap.size
 lt h:=h.2
 mod h hm hG:=⟨h.1.keep (Qm.of_mod hm hG),fun k hk=>Nat.lt_of_lt_of_le (h.2 k hk) hm.size⟩
theorem St.join {lo:Nat} {w0 w:World} {R S T:Q3} {Rs:List Q3} (h:St lo w0 w (R::S::Rs)) (hT:∀ F G,R.P w F→S.P w G→T.P w fun k=>F k∨G k):St lo w0 w (T::Rs):=by
 obtain⟨hb,h0,F,V,h1,⟨G,W,g1,g2,g3,g4⟩,h3,h4⟩:=h;refine⟨hb,h0,fun k=>F k∨G k,W,hT F G h1 g1,g2,fun k hk=>?_,fun k hk=>h4 k (g4 k hk)⟩;rcases hk with hk|hk
 ·exact⟨(h3 k hk).1,fun hw=>(h3 k hk).2 (g4 k hw)⟩
 ·exact⟨h4 k (g3 k hk).1,(g3 k hk).2⟩
theorem zero_tm (w:World):(zeroValue 248).run prog w=.ok (.agg #[.string ⟨#[]⟩,.bool false,.slice none 0 0]) w:=by kernel_rfl
theorem Nw (l:List Tm.Qu):∀ u∈Tm.Zn l,Tm.Jz 0 u.set:=Tm.Ba l [] (fun u hu=>by cases hu)
theorem St.mergePut {lo:Nat} {w0 w:World} {Rs:List Q3} {v:Value} {M:Lit→Option Value} {l:List Tm.Qu} {t:Tm.Qu} (h:St lo w0 w (Aw v (Tm.Xg ((Tm.Dy (Tm.Zn l) t.path).getD t) t).set::tmR M (Tm.Zn l)::Rs)):
 St lo w0 w (tmR (Jq M (.string t.path) (.agg #[.string ⟨t.path.toArray⟩,.bool (Tm.Xg ((Tm.Dy (Tm.Zn l) t.path).getD t) t).abs,v])) (Tm.Zn (l++[t]))::Rs):=h.join fun F G hF hG=>by
 refine⟨(hG.1.mono fun k hk=>.inr hk).put (hF.1.mono fun k hk=>.inl hk),fun k hk=>?_⟩;rcases hk with hk|hk
 ·exact hF.2 k hk
 ·exact hG.2 k hk
theorem St.tmAt {lo:Nat} {w0 w:World} {Rs:List Q3} {M:Lit→Option Value} {L:List Tm.Qu} (h:St lo w0 w (tmR M L::Rs)):Ud w (fun k=>lo≤k) M L:=by obtain⟨F,h1,h2,_⟩:=h.open;exact h1.1.mono h2
theorem merge_spec (L:List Tm.Qu) (v:Value) (F:Nat→Prop) (w:World) (h:Zs w F v L) (hs:∀ t∈L,Yk t) (hL:L.length≤1048576):
 Calls prog 254 #[v,.func (.func 255) #[] #[]] w fun e w'=>∃(n:Nat) (M:Lit→Option Value),e=.returned (.map (some w.heap.size))∧n≤L.length∧St w.heap.size w w' [Zw 9 w.heap.size n M,tmR M (Tm.Zn L)]:=by
 obtain⟨A,c,X,rfl,rfl,hc1,hc2,hr,hm⟩:=h;obtain⟨N,hN⟩:∃ N,X.length=N:=⟨_,rfl⟩;rw[List.length_map] at hL ⊢;rw[hN] at hL ⊢;have HX:=Kd4 hN (fun j hj=>Us hr (j:=j) hj) hm hs;clear hN hr hm hs hc1 hc2;have hmm:=@run_makeMap prog;go_enter func254,ntmps254;go_wp2
 go_loopw [13] (fun i wr=>∃(k n:Nat) (M:Lit→Option Value),k≤N∧i=.int .i64 k∧n≤k∧Hid (St w.heap.size w wr [Zw 9 w.heap.size n M,tmR M (Tm.Zn ((X.take k).map Prod.fst))])) (fun i _=>N-(intOf i).toNat)
 case atStart=>exact⟨0,0,fun _=>none,Nat.zero_le _,rfl,Nat.le_refl _,Kd ((((St.nil w).mpMade 9).new (R:=tmR (fun _=>none) []) (F:=fun _=>False) (Below.refl _ _) ⟨Ud.nil _ _,fun k hk=>hk.elim⟩ (fun k hk=>hk.elim)).swap)⟩
 case round=>
  obtain⟨k,n,M,hk,rfl,hn,hst⟩:=hrel
  by_cases hlt:k<N
  ·obtain⟨hN,hcs,hm,hs⟩:=HX.out
   have hkX:k<X.length :=(by omega);obtain⟨b,off,rfl,hb,e0,e1,e2⟩:=hcs k hkX;rw[←hst.out.below.cell (p:=⟨b,off+k*3,none⟩) hb] at e0;rw[←hst.out.below.cell (p:=⟨b,off+k*3+1,none⟩) hb] at e1;rw[←hst.out.below.cell (p:=⟨b,off+k*3+2,none⟩) hb] at e2;have hset:=hm X[k] (List.getElem_mem hkX);have hsm:=hs X[k].1 (List.mem_map.2 ⟨X[k],List.getElem_mem hkX,rfl⟩);have htk:(X.take (k+1)).map Prod.fst=(X.take k).map Prod.fst++[X[k].1] :=(by rw[List.take_succ_eq_append_getElem hkX,List.map_append,List.map_singleton]);generalize X[k]=x at e0 e1 e2 hset hsm htk;obtain⟨⟨p,ab,s⟩,v⟩:=x;dsimp only at e0 e1 e2 hset hsm htk;obtain⟨Aq,nq,cq,rfl⟩:=hset.shape;obtain⟨lt,hlt'⟩:∃ lt,(X.take k).map Prod.fst=lt:=⟨_,rfl⟩;rw[hlt'] at hst htk;have hpl:p.length≤maxLen :=(by have:=hsm.2;unfold maxLen;dsimp only at this;omega);obtain⟨W1,hW1⟩:∃ W1,wr.alloc (.cells #[.string ⟨p.toArray⟩,.bool ab,.slice Aq nq cq] 248)=W1:=⟨_,rfl⟩;have y1:=hst.out.alloc 248 #[.string ⟨p.toArray⟩,.bool ab,.slice Aq nq cq];rw[hW1] at y1;obtain⟨d0,-,d1,-,d2,-⟩:=G4 y1.blk;have lk:=y1.tail.mp.look_ok J8 underlying342 (zero_tm W1) (Zb p hpl);have hT:=(y1.pk [2]).tmAt p;have i0:(0:Int)≤(k:Int):=Int.natCast_nonneg _;have i1:(k:Int)<(N:Int):=Int.ofNat_lt.2 hlt
   obtain⟨ub,us,B,m,d,hu,hsl,hset2,hval⟩:∃(ub:Bool) (us:List Tm.Sp) (B:Option Addr) (m d:Nat),(Tm.Dy (Tm.Zn lt) p).getD ⟨p,ab,s⟩=⟨p,ub,us⟩∧us.length≤4294967296∧Qr W1 (fun _=>True) (.slice B m d) us∧
    ((M (.string p)=none∧ab=ub∧Aq=B∧nq=m∧cq=d)∨M (.string p)=some (.agg #[.string ⟨p.toArray⟩,.bool ub,.slice B m d])):=by
    cases ha:Tm.Dy (Tm.Zn lt) p with
    |none =>rw[ha] at hT;exact⟨ab,s,Aq,nq,cq,rfl,hsm.1,(hset.keep (Qm.of_below (w:=w) y1.below)).any,.inl ⟨hT,rfl,rfl,rfl,rfl⟩⟩
    |some t =>rw[ha] at hT;obtain⟨v2,h1,h2⟩:=hT;obtain⟨B,m,d,rfl⟩:=h2.shape;obtain⟨hmem,hpath⟩:=Tm.Kb ha;have hcf:=U6 (Nw lt t hmem);obtain⟨q,ub,us⟩:=t;dsimp only at hpath h1 h2 hcf;subst hpath;exact⟨ub,us,B,m,d,rfl,hcf,h2.any,.inr h1⟩
   have hset1:=(hset.keep (Qm.of_below (w:=w) y1.below)).any;have hset1:=(hset.keep (Qm.of_below (w:=w) y1.below)).any
   have hlast:∀ W2,Below W1.heap.size W1 W2→St w.heap.size w W2 [Qa W1.heap.size 248 #[.string ⟨p.toArray⟩,.bool ub,.slice B m d],Qa wr.heap.size 248 #[.string ⟨p.toArray⟩,.bool ab,.slice Aq nq cq],Zw 9 w.heap.size n M,tmR M (Tm.Zn lt)]→
    (∀ W',Below W2.heap.size W2 W'→W'.cell? ⟨wr.heap.size,0,none⟩=some (.string ⟨p.toArray⟩)∧W'.cell? ⟨wr.heap.size,1,none⟩=some (.bool ab)∧W'.cell? ⟨wr.heap.size,2,none⟩=some (.slice Aq nq cq)∧W'.cell? ⟨W1.heap.size,0,none⟩=some (.string ⟨p.toArray⟩)∧W'.cell? ⟨W1.heap.size,1,none⟩=some (.bool ub)∧W'.cell? ⟨W1.heap.size,2,none⟩=some (.slice B m d))∧∀ W',Below W2.heap.size W2 W'→Calls prog 255 #[.agg #[.string ⟨p.toArray⟩,.bool ub,.slice B m d],.agg #[.string ⟨p.toArray⟩,.bool ab,.slice Aq nq cq]] W' fun e w'=>∃ A4 n4 c4,e=.returned (.agg #[.string ⟨p.toArray⟩,.bool (ub&&ab),.slice A4 n4 c4])∧Below W2.heap.size W2 w'∧Qr w' (fun k=>W2.heap.size≤k) (.slice A4 n4 c4) (Tm.Xd us s):=fun W2 b2 y2=>by
    refine⟨fun W' hb=>?_,fun W' hb=>?_⟩
    ·obtain⟨g0,-,g1,-,g2,-⟩:=G4 (y2.under hb).blk
     obtain⟨h0,-,h1,-,h2,-⟩:=G4 (y2.under hb).tail.blk;exact⟨h0,h1,h2,g0,g1,g2⟩
    ·refine(both_spec p p ub ab us s _ _ _ _ W' ((hset2.below b2).below hb) ((hset1.below b2).below hb) hsl hsm.1).mono ?_
     rintro e w' ⟨v',rfl,z,hs'⟩;obtain⟨A4,n4,c4,rfl⟩:=hs'.shape;exact⟨A4,n4,c4,rfl,hb.trans (z.mono hb.size),hs'.mono fun k hk=>Nat.le_trans hb.size hk⟩
   have HL:=Kd hlast;have Y1:=Kd y1;have HT:=Kd3 htk hu hlt;have hkey:=Zb p hpl;have hnm:n<maxLen :=(by unfold maxLen;omega);clear hN hcs hm hs hset hsm htk hlt' hT hset1 hset2 hsl hst hu hlast y1;rcases hval with⟨hM,rfl,rfl,rfl,rfl⟩|hM
   ·rw[hM] at lk
    simp only[Option.getD_none,Option.isSome_none] at lk;obtain⟨Wz,hWz⟩:∃ Wz,W1.alloc (.cells #[.string ⟨#[]⟩,.bool false,.slice none 0 0] 248)=Wz:=⟨_,rfl⟩;have yz:=Y1.out.alloc 248 #[.string ⟨#[]⟩,.bool false,.slice none 0 0];rw[hWz] at yz;obtain⟨g0,q0,g1,q1,g2,q2⟩:=G4 yz.blk;obtain⟨Wy,hWy⟩:∃ Wy,((Wz.setCell ⟨W1.heap.size,0,none⟩ (.string ⟨#[]⟩)).setCell ⟨W1.heap.size,1,none⟩ (.bool false)).setCell ⟨W1.heap.size,2,none⟩ (.slice none 0 0)=Wy:=⟨_,rfl⟩;have yz:=((yz.set_ 0 (.string ⟨#[]⟩)).set_ 1 (.bool false)).set_ 2 (.slice none 0 0);simp only[List.setIfInBounds_toArray,List.set_cons_zero,List.set_cons_succ] at yz;rw[hWy] at yz;obtain⟨g3,q3,g4,q4,g5,q5⟩:=G4 yz.blk;obtain⟨t0,-,t1,-,t2,-⟩:=G4 yz.tail.blk;obtain⟨W2,hW2⟩:∃ W2,((Wy.setCell ⟨W1.heap.size,0,none⟩ (.string ⟨p.toArray⟩)).setCell ⟨W1.heap.size,1,none⟩ (.bool ab)).setCell ⟨W1.heap.size,2,none⟩ (.slice Aq nq cq)=W2:=⟨_,rfl⟩;have y2:=((yz.set_ 0 (.string ⟨p.toArray⟩)).set_ 1 (.bool ab)).set_ 2 (.slice Aq nq cq);simp only[List.setIfInBounds_toArray,List.set_cons_zero,List.set_cons_succ] at y2;rw[hW2] at y2;have b2:Below W1.heap.size W1 W2 :=(by rw[←hW2,←hWy,←hWz];exact((((((b1 W1 _).setCell (Nat.le_refl _) _).setCell (Nat.le_refl _) _).setCell (Nat.le_refl _) _).setCell (Nat.le_refl _) _).setCell (Nat.le_refl _) _).setCell (Nat.le_refl _) _);obtain⟨hS,kb⟩:=HL.out W2 b2 y2;obtain⟨c0,c1,c2,c3,c4,c5⟩:=hS W2 (Below.refl _ _);have HS:=Kd hS;have KB:=Kd kb;have Y2:=Kd y2;have r0:=Below.refl W2.heap.size W2;clear hS kb y2 b2 yz;go_wp2_with fail;refine wp_region_noPanic ?_;refine wp_region_held_drew (S:=(fun W'=>W'.cell? ⟨wr.heap.size,0,none⟩=some (.string ⟨p.toArray⟩)∧W'.cell? ⟨wr.heap.size,1,none⟩=some (.bool ab)∧W'.cell? ⟨wr.heap.size,2,none⟩=some (.slice Aq nq cq)∧W'.cell? ⟨W1.heap.size,0,none⟩=some (.string ⟨p.toArray⟩)∧W'.cell? ⟨W1.heap.size,1,none⟩=some (.bool ab)∧W'.cell? ⟨W1.heap.size,2,none⟩=some (.slice Aq nq cq))) (by kernel_rfl) ?_ (fun hH0=>?_)
    ·exact HS.out _ r0.drew
    refine tk 0 27 hH0 ?_;refine tk 1 28 hH0 ?_;refine tk 2 29 hH0 ?_;refine tk 3 30 hH0 ?_;refine tk 4 31 hH0 ?_;refine tk 5 32 hH0 ?_;refine Zk [6] ?_;refine an 33 fun K hK=>?_
    go_simp;(
     with_reducible refine(KB.out _ r0.drew).mono ?_
     rintro e w4 ⟨A4,n4,c4,rfl,r1,s4⟩
     have y4:=(Y2.out.newSet r1 s4).pk [3,0,4,1,2]);go_wp2_with fail
    refine hK.out _ _ ?_ (fun hH1=>?_)
    ·exact HS.out _ r1
    clear hK K hH0
    try simp only[pu]
    refine Zk [7] ?_;refine az fun K hK=>?_
    (
     refine X4 (val:=.agg #[.string ⟨p.toArray⟩,.bool ab,.slice A4 n4 c4]) 342 y4 J8 underlying342 rfl _ _ _ rfl (by rfl) hnm (by rfl) (by rfl) hkey ?_;intro w6 h6
     have e8:w6.cell? ⟨wr.heap.size,0,none⟩=some (.string ⟨p.toArray⟩)∧w6.cell? ⟨wr.heap.size,1,none⟩=some (.bool ab)∧w6.cell? ⟨wr.heap.size,2,none⟩=some (.slice Aq nq cq)∧w6.cell? ⟨W1.heap.size,0,none⟩=some (.string ⟨p.toArray⟩)∧w6.cell? ⟨W1.heap.size,1,none⟩=some (.bool ab)∧w6.cell? ⟨W1.heap.size,2,none⟩=some (.slice Aq nq cq):=by
      obtain⟨g0,-,g1,-,g2,-⟩:=G4 h6.tail.tail.tail.blk;obtain⟨h0,-,h1,-,h2,-⟩:=G4 h6.tail.tail.tail.tail.blk
      exact⟨h0,h1,h2,g0,g1,g2⟩)
    refine hK.out _ _ ?_ (fun hH2=>?_)
    ·exact e8
    clear hK K hH1
    try simp only[pu]
    refine dn ?_ _
    all_goals(refine NoPanic.normal ?_)
    all_goals(
     have hx:=h6.pk [1,2,0];have hj:St w.heap.size w w6 [tmR (Jq M (.string p) (.agg #[.string ⟨p.toArray⟩,.bool ab,.slice A4 n4 c4])) (Tm.Zn (lt++[⟨p,ab,s⟩])),Zw 9 w.heap.size (n+1) (Jq M (.string p) (.agg #[.string ⟨p.toArray⟩,.bool ab,.slice A4 n4 c4]))] :=(by have:=St.mergePut (t:=⟨p,ab,s⟩) (l:=lt) (lo:=w.heap.size) (w0:=w) (w:=w6) (v:=.slice A4 n4 c4) (M:=M) (Rs:=[Zw 9 w.heap.size (n+1) (Jq M (.string p) (.agg #[.string ⟨p.toArray⟩,.bool ab,.slice A4 n4 c4]))]);dsimp only at this;rw[HT.out.2.1] at this;simp only[Tm.Xg,Bool.and_self] at this;exact this hx);have HJ:=Kd hj.swap;clear hx hj h6 e8 y4 r0 r1 s4;go_wp2
     go_roundw
     case rel=>exact⟨k+1,n+1,_,Nat.succ_le_of_lt HT.out.2.2,by go_num,by omega,Kd (by rw[HT.out.1];exact HJ.out)⟩
     case measure=>have:=HT.out.2.2;simp[intOf];omega)
   ·rw[hM] at lk
    simp only[Option.getD_some,Option.isSome_some] at lk;obtain⟨W2,hW2⟩:∃ W2,W1.alloc (.cells #[.string ⟨p.toArray⟩,.bool ub,.slice B m d] 248)=W2:=⟨_,rfl⟩;have y2:=Y1.out.alloc 248 #[.string ⟨p.toArray⟩,.bool ub,.slice B m d];rw[hW2] at y2;have b2:Below W1.heap.size W1 W2 :=(by rw[←hW2];exact b1 W1 _);obtain⟨hS,kb⟩:=HL.out W2 b2 y2;obtain⟨c0,c1,c2,c3,c4,c5⟩:=hS W2 (Below.refl _ _);have HS:=Kd hS;have KB:=Kd kb;have Y2:=Kd y2;have r0:=Below.refl W2.heap.size W2;clear hS kb y2 b2;go_wp2_with fail;refine wp_region_noPanic ?_;refine wp_region_held_drew (S:=(fun W'=>W'.cell? ⟨wr.heap.size,0,none⟩=some (.string ⟨p.toArray⟩)∧W'.cell? ⟨wr.heap.size,1,none⟩=some (.bool ab)∧W'.cell? ⟨wr.heap.size,2,none⟩=some (.slice Aq nq cq)∧W'.cell? ⟨W1.heap.size,0,none⟩=some (.string ⟨p.toArray⟩)∧W'.cell? ⟨W1.heap.size,1,none⟩=some (.bool ub)∧W'.cell? ⟨W1.heap.size,2,none⟩=some (.slice B m d))) (by kernel_rfl) ?_ (fun hH0=>?_)
    ·exact HS.out _ r0.drew
    refine tk 0 27 hH0 ?_;refine tk 1 28 hH0 ?_;refine tk 2 29 hH0 ?_;refine tk 3 30 hH0 ?_;refine tk 4 31 hH0 ?_;refine tk 5 32 hH0 ?_;refine Zk [6] ?_;refine an 33 fun K hK=>?_
    go_simp;(
     with_reducible refine(KB.out _ r0.drew).mono ?_
     rintro e w4 ⟨A4,n4,c4,rfl,r1,s4⟩
     have y4:=(Y2.out.newSet r1 s4).pk [3,0,4,1,2]);go_wp2_with fail
    refine hK.out _ _ ?_ (fun hH1=>?_)
    ·exact HS.out _ r1
    clear hK K hH0
    try simp only[pu]
    refine Zk [7] ?_;refine az fun K hK=>?_
    (
     refine X4 (val:=.agg #[.string ⟨p.toArray⟩,.bool (ub&&ab),.slice A4 n4 c4]) 342 y4 J8 underlying342 rfl _ _ _ rfl (by rfl) hnm (by rfl) (by rfl) hkey ?_;intro w6 h6
     have e8:w6.cell? ⟨wr.heap.size,0,none⟩=some (.string ⟨p.toArray⟩)∧w6.cell? ⟨wr.heap.size,1,none⟩=some (.bool ab)∧w6.cell? ⟨wr.heap.size,2,none⟩=some (.slice Aq nq cq)∧w6.cell? ⟨W1.heap.size,0,none⟩=some (.string ⟨p.toArray⟩)∧w6.cell? ⟨W1.heap.size,1,none⟩=some (.bool ub)∧w6.cell? ⟨W1.heap.size,2,none⟩=some (.slice B m d):=by
      obtain⟨g0,-,g1,-,g2,-⟩:=G4 h6.tail.tail.tail.blk;obtain⟨h0,-,h1,-,h2,-⟩:=G4 h6.tail.tail.tail.tail.blk
      exact⟨h0,h1,h2,g0,g1,g2⟩)
    refine hK.out _ _ ?_ (fun hH2=>?_)
    ·exact e8
    clear hK K hH1
    try simp only[pu]
    refine dn ?_ _
    all_goals(refine NoPanic.normal ?_)
    all_goals(
     have hx:=h6.pk [1,2,0];have hj:St w.heap.size w w6 [tmR (Jq M (.string p) (.agg #[.string ⟨p.toArray⟩,.bool (ub&&ab),.slice A4 n4 c4])) (Tm.Zn (lt++[⟨p,ab,s⟩])),Zw 9 w.heap.size (n+1) (Jq M (.string p) (.agg #[.string ⟨p.toArray⟩,.bool (ub&&ab),.slice A4 n4 c4]))] :=(by have:=St.mergePut (t:=⟨p,ab,s⟩) (l:=lt) (lo:=w.heap.size) (w0:=w) (w:=w6) (v:=.slice A4 n4 c4) (M:=M) (Rs:=[Zw 9 w.heap.size (n+1) (Jq M (.string p) (.agg #[.string ⟨p.toArray⟩,.bool (ub&&ab),.slice A4 n4 c4]))]);dsimp only at this;rw[HT.out.2.1] at this;exact this hx);have HJ:=Kd hj.swap;clear hx hj h6 e8 y4 r0 r1 s4;go_wp2
     go_roundw
     case rel=>exact⟨k+1,n+1,_,Nat.succ_le_of_lt HT.out.2.2,by go_num,by omega,Kd (by rw[HT.out.1];exact HJ.out)⟩
     case measure=>have:=HT.out.2.2;simp[intOf];omega)
  ·obtain rfl:k=N:=Nat.le_antisymm hk (Nat.le_of_not_lt hlt)
   have hge:decide ((k:Int)<(k:Int))=false :=(by simp);have hf:=hst.out;rw[List.take_of_length_le (by rw[HX.out.1];exact Nat.le_refl _)] at hf;have HF:=Kd hf;clear hf hst;go_wp2;go_ret;exact⟨n,M,rfl,hn,HF.out⟩
open Go.RowKit Go.Shelf Go.Sort
theorem Hc:∀ a b:Tm.Qk,Lib.compareBytes a b=E5 a b
 |[],[]=>rfl
 |[],_::_=>rfl
 |_::_,[]=>rfl
 | a :: s,b::t=>by
   have ih:=Hc s t;unfold E5 at ih ⊢;rw[Lib.compareBytes,Tm.Jr,Tm.Jr]
   by_cases h1:a<b
   ·rw[if_pos h1,if_pos h1]
    rfl
   ·rw[if_neg h1,if_neg h1]
    by_cases h2:b<a
    ·have h3:¬ a=b:=fun e=>by rw[e] at h2;exact absurd h2 (by rw[UInt8.lt_iff_toNat_lt];omega)
     rw[if_pos h2,if_neg h3,if_pos h2];rfl
    ·have h3:a=b:=by
      rw[UInt8.lt_iff_toNat_lt] at h1 h2;exact UInt8.toNat_inj.1 (by omega)
     rw[if_neg h2,if_pos h3,if_neg h2,if_pos h3.symm];exact ih
theorem Nl (a b:Tm.Qk) (w:World):Calls prog 61 #[.string ⟨a.toArray⟩,.string ⟨b.toArray⟩] w fun e w'=>e=.returned (.int .i64 (E5 a b))∧w'=w:=by have h:=Any.strings_Compare Tryz.laysCompare ⟨a.toArray⟩ ⟨b.toArray⟩ w;rw[show Lib.compareBytes (⟨a.toArray⟩:ByteArray).data.toList (⟨b.toArray⟩:ByteArray).data.toList=E5 a b from Hc a b] at h;exact h
abbrev PTm:={ t:Xn // ∃ A n c,t.2=.slice A n c }
instance : Inhabited PTm:=⟨(⟨[],false,[]⟩,.slice none 0 0),none,0,0,rfl⟩
def encT (x:PTm):List Value:=X3 x.1
def cfT (x y:PTm):Int:=E5 x.1.1.path y.1.1.path
theorem cmpS_neg (a b:Tm.Qk):E5 a b<0↔Tm.Jr a b=true:=by
 unfold E5
 split
 ·rename_i h
  exact⟨fun _=>h,fun _=>by decide⟩
 ·rename_i h
  split
  ·exact⟨fun e=>absurd e (by decide),fun e=>absurd e h⟩
  ·exact⟨fun e=>absurd e (by decide),fun e=>absurd e h⟩
theorem ltT (x y:PTm):ltOf cfT x y=Tm.Jr x.1.1.path y.1.1.path:=by unfold ltOf cfT;rw[Bool.eq_iff_iff,decide_eq_true_iff,cmpS_neg]
theorem Tc {a b c:Tm.Qk} (h1:Tm.Jr a b=false) (h2:Tm.Jr b c=false):Tm.Jr a c=false:=by
 cases h:Tm.Jr a c with
 |false=>rfl
 | true=>
   cases h3:Tm.Jr b a with
   | true=>
     have:=Tm.Je _ _ _ h3 h;rw[h2] at this
     cases this
   | false=>
     rw[Tm.Vp _ _ h1 h3] at h;rw[h2] at h
     cases h
theorem swoT:SWO (ltOf cfT) where
 irrefl x:=by rw[ltT,Tm.Qs]
 trans x y z h1 h2:=by rw[ltT] at *;exact Tm.Je _ _ _ h1 h2
 ntrans x y z h1 h2:=by rw[ltT] at *;exact Tc h1 h2
theorem tcan1_spec (x y:PTm) (W:World):Calls prog 259 #[.agg #[.string ⟨x.1.1.path.toArray⟩,.bool x.1.1.abs,x.1.2],.agg #[.string ⟨y.1.1.path.toArray⟩,.bool y.1.1.abs,y.1.2]] W fun e w'=>e=.returned (.int .i64 (cfT x y))∧∃ q os',w'=grow (W.drewN q) os':=by obtain⟨⟨⟨p,a,s⟩,v⟩,A,n,c,e1⟩:=x;obtain⟨⟨⟨q,b,t⟩,u⟩,B,m,d,e2⟩:=y;unfold cfT;dsimp only at e1 e2 ⊢;subst e1 e2;have k:=fun W=>Nl p q W;go_enter func259,ntmps259;go_wp2_with fail;refine(k _).mono ?_;rintro e w' ⟨rfl,rfl⟩;go_wp2;go_ret;exact⟨rfl,0,_,by rw[alloc_eq_grow,alloc_eq_grow,grow_grow];rfl⟩
theorem Af {lo:Nat} {w0 w:World} {Rs:List Q3} {A:Option Addr} {n c:Nat} {l:List Xn} (h:St lo w0 w (Qh 248 3 (.slice A n c) n (l.flatMap X3)::Rs)) (hl:l.length=n) (hr:∀ x∈l,∃ A n c,x.2=.slice A n c) (hm:n<4611686018427387904):
 Calls prog 258 #[.slice A n c,.func (.func 259) #[] #[]] w fun e w'=>e=.returned (.tuple #[])∧∃ l':List Xn,l'.Perm l∧l'.Pairwise (fun x y=>Tm.Jr y.1.path x.1.path=false)∧St lo w0 w' (Qh 248 3 (.slice A n c) n (l'.flatMap X3)::Rs):=by
 have hlim:Lib.bitLen n<4611686018427387904:=Nat.lt_of_le_of_lt (Lib.bitLen_le n 62 (by omega) (by omega)) (by omega);have kl:∀ W,Calls prog 104 #[.int .u64 (n:Int)] W fun e w'=>e=.returned (.int .i64 (Lib.bitLen n:Nat))∧w'=W:=fun W=>by have h:=Any.bits_Len Tryz.bitsLen (n:Int) W (by omega) (by omega);rw[Int.toNat_natCast] at h;exact h
 have kp:∀ W,W=w→Calls prog 275 #[.slice A n c,.int .i64 0,.int .i64 (n:Int),.int .i64 (Lib.bitLen n:Nat),.func (.func 259) #[] #[]] W fun e w'=>e=.returned (.tuple #[])∧∃ l':List Xn,l'.Perm l∧l'.Pairwise (fun x y=>Tm.Jr y.1.path x.1.path=false)∧St lo w0 w' (Qh 248 3 (.slice A n c) n (l'.flatMap X3)::Rs):=by
  intro W hW;rw[hW];rcases Nat.eq_zero_or_pos n with h0|h0
  ·subst h0
   have e0:=List.eq_nil_of_length_eq_zero hl;subst e0;refine(AnyF.pdqsortCmpFunc_none Tryz.pdqTm A c _ _ w).mono ?_;rintro e w' ⟨rfl,rfl⟩;exact⟨rfl,[],List.Perm.refl _,List.Pairwise.nil,h⟩
  ·obtain⟨g,c',e0,hg,h1,h2⟩:=Zx h.own h0
   injection e0 with e1 _ e3;subst e1 e3;obtain⟨d,hd⟩:∃ d:Array PTm,d.toList.map (·.1)=l:=⟨(l.attach.map fun x=>(⟨x.1,hr x.1 x.2⟩:PTm)).toArray,by simp only[List.map_map,Function.comp_def];exact List.attach_map_subtype_val l⟩;have hds:d.size=n :=(by rw[←hl,←hd];simp);have hfl:∀ M:List PTm,M.flatMap encT=(M.map (·.1)).flatMap X3:=fun M=>by rw[List.flatMap_map];rfl
   have hH:HoldsK encT 3 w g 0 d:=by unfold HoldsK;rw[U3 (enc:=encT) (k:=3) (fun _=>rfl),hfl,hd];exact Vh (by simpa using h.own)
   have k:=AnyQ.pdqsortCmpFunc_all Tryz.pdqTm 3 Tryz.isAgg248 Tryz.sizeOf248 encT cfT 259 #[] swoT g 0 c d w (enters_of func259 (by kernel_rfl) rfl) (fun _ _ _ _ x y=>tcan1_spec x y _)
    ⟨fun _=>rfl,fun x v hv=>by
      obtain⟨⟨⟨p,a,s⟩,u⟩,A,n,c,e1⟩:=x;dsimp only at e1;subst e1;simp[encT,X3] at hv
      rcases hv with rfl|rfl|rfl<;>rfl,hH,hg⟩ (n+1) 0 n (Lib.bitLen n) d w (by omega) rfl (SWK.start hH) (Nat.zero_le _) (by omega) (by omega) hlim (Or.inl rfl)
   rw[hds] at k
   change Calls prog 275 _ _ _ at k
   refine k.mono ?_;rintro e w' ⟨rfl,m,os,rfl⟩;have hs:=pdq_sorts (ltOf cfT) swoT d 0 d.size (Lib.bitLen n) true true (Nat.zero_le _) (Nat.le_refl _) (Or.inl rfl);rw[hds] at hs;generalize pdq (ltOf cfT) d 0 n (Lib.bitLen n) true true=d' at hs ⊢;obtain⟨p1,p2⟩:=O0 (d:=d) (d':=d') (by rw[hds];exact hs.1);rw[hds] at p2;refine⟨rfl,d'.toList.map (·.1),?_,?_,?_⟩
   ·rw[←hd]
    exact p1.map _
   ·rw[List.pairwise_map]
    refine List.Pairwise.imp (fun {x y} hxy=>?_) (Eh p2 hs.2);rw[ltT] at hxy;exact hxy
   ·rw[←hfl]
    exact h.sorted (enc:=encT) (fun _=>rfl) p2
 clear hl hr;have KP:=Kd kp;clear kp;have wr:IntKind.u64.wrap (n:Int)=n:=by simp[IntKind.wrap,IntKind.bits,IntKind.signed];omega
 go_enter func258,ntmps258;go_wp2_with fail;with_reducible refine(kl _).mono ?_;rintro e w1 ⟨rfl,rfl⟩;clear kl;go_wp2_with fail;with_reducible refine(KP.out _ rfl).mono ?_;rintro e w2 ⟨rfl,hf⟩;have HF:=Kd hf;clear hf;go_wp2
 go_end0
 exact⟨rfl,HF.out⟩
structure Gh (M:Lit→Option Value) (MT:List Tm.Qu) (left:Lit→Bool) (P:List Xn):Prop where
 nodup:P.Pairwise fun a b=>a.1.path≠b.1.path
 elem:∀ m∈P,left (.string m.1.path)=false∧Tm.Dy MT m.1.path=some m.1∧Tm.Wv m.1=false∧M (.string m.1.path)=some (.agg #[.string ⟨m.1.path.toArray⟩,.bool m.1.abs,m.2])
 all:∀ p t,Tm.Dy MT p=some t→left (.string p)=false→Tm.Ws t=false∧(Tm.Wv t=false→∃ v,(t,v)∈P)
theorem Gh.start {w:World} {F:Nat→Prop} {M:Lit→Option Value} {MT:List Tm.Qu} (h:Ud w F M MT):Gh M MT (fun kl=>(M kl).isSome) [] where
 nodup:=List.Pairwise.nil
 elem m hm:=by cases hm
 all p t ht hl:=by
  have:=h p;rw[ht] at this;obtain⟨v,h1,-⟩:=this;have hl:(M (.string p)).isSome=false:=hl;rw[h1] at hl
  cases hl
theorem Az (p x:Tm.Qk):(Lit.string p).sameKey (.string x)=(p==x):=rfl
theorem Gh.step {M:Lit→Option Value} {MT:List Tm.Qu} {left:Lit→Bool} {P:List Xn} (h:Gh M MT left P) {x:Tm.Qk} {t:Tm.Qu} {v:Value} (hl:left (.string x)=true) (ht:Tm.Dy MT x=some t) (hM:M (.string x)=some (.agg #[.string ⟨x.toArray⟩,.bool t.abs,v])) (hn:Tm.Ws t=false):
 Gh M MT (fun z=>left z&&!z.sameKey (.string x)) (if Tm.Wv t=true then P else P++[(t,v)]):=by
 have hx:=(Tm.Kb ht).2
 have hP:∀ m∈P,m.1.path≠x:=fun m hm e=>by
  have:=(h.elem m hm).1;rw[e,hl] at this
  cases this
 have Zo:∀ p,left (.string p)=false→(left (.string p)&&!(Lit.string p).sameKey (.string x))=false:=fun p hp=>by rw[hp];rfl
 have hnew:∀ p,(left (.string p)&&!(Lit.string p).sameKey (.string x))=false→p=x∨left (.string p)=false:=fun p hp=>by
  rw[Az] at hp
  by_cases e:p=x
  ·exact .inl e
  ·rw[beq_eq_false_iff_ne.2 e] at hp
   right;simpa using hp
 cases ha:Tm.Wv t with
 | true=>
   rw[if_pos rfl];refine⟨h.nodup,fun m hm=>?_,fun p u hu hp=>?_⟩
   ·obtain⟨h1,h2⟩:=h.elem m hm
    exact⟨Zo _ h1,h2⟩
   ·rcases hnew p hp with rfl|hp
    ·rw[ht] at hu
     obtain rfl:=Option.some.inj hu;exact⟨hn,fun e=>by rw[ha] at e;cases e⟩
    ·exact h.all p u hu hp
 | false=>
   rw[if_neg (by decide)];refine⟨List.pairwise_append.2 ⟨h.nodup,List.pairwise_singleton _ _,fun a h1 b h2=>?_⟩,fun m hm=>?_,fun p u hu hp=>?_⟩
   ·rw[List.mem_singleton.1 h2]
    exact fun e=>hP a h1 (e.trans hx)
   ·rcases List.mem_append.1 hm with hm|hm
    ·obtain⟨h1,h2⟩:=h.elem m hm
     exact⟨Zo _ h1,h2⟩
    ·obtain rfl:=List.mem_singleton.1 hm
     dsimp only;subst hx;refine⟨?_,ht,ha,hM⟩;show (left (.string t.path)&&!(t.path==t.path))=false;simp
   ·rcases hnew p hp with rfl|hp
    ·rw[ht] at hu
     obtain rfl:=Option.some.inj hu;exact⟨hn,fun _=>⟨v,List.mem_append.2 (.inr (List.mem_singleton.2 rfl))⟩⟩
    ·obtain⟨h1,h2⟩:=h.all p u hu hp
     refine⟨h1,fun e=>?_⟩;obtain⟨v',hv⟩:=h2 e;exact⟨v',List.mem_append.2 (.inl hv)⟩
theorem Gh.done {M:Lit→Option Value} {L:List Tm.Qu} {left:Lit→Bool} {P P':List Xn} (h:Gh M (Tm.Zn L) left P) (hl:∀ kl,left kl=false) (hp:P'.Perm P) (hs:P'.Pairwise fun x y=>Tm.Jr y.1.path x.1.path=false):Tm.Zh L=some (P'.map Prod.fst):=by
 have hn:(Tm.Zn L).any Tm.Ws=false:=by rw[List.any_eq_false];intro t ht;rw[(h.all t.path t (Tm.atP_mem (Tm.Fy L) ht) (hl _)).1];decide
 unfold Tm.Zh;rw[if_neg (by rw[hn];decide)]
 congr 1
 have hnd:P'.Pairwise fun a b=>a.1.path≠b.1.path:=(hp.pairwise_iff (fun {a b} h=>Ne.symm h)).2 h.nodup;refine Tm.Lt ((Tm.Fy L).filter _) ?_ fun c=>?_
 ·unfold Tm.G6
  rw[List.pairwise_map];refine(hs.and hnd).imp fun {a b} hab=>?_
  cases hlt:Tm.Jr a.1.path b.1.path with
  |true=>rfl
  |false=>exact absurd (Tm.Vp _ _ hlt hab.1) hab.2
 ·rw[List.mem_filter,List.mem_map]
  constructor
  ·rintro⟨h1,h2⟩
   have ha:Tm.Wv c=false :=(by simpa using h2);obtain⟨v,hv⟩:=(h.all c.path c (Tm.atP_mem (Tm.Fy L) h1) (hl _)).2 ha;exact⟨(c,v),hp.mem_iff.2 hv,rfl⟩
  ·rintro⟨m,hm,rfl⟩
   obtain⟨-,h2,h3,-⟩:=h.elem m (hp.mem_iff.1 hm);exact⟨(Tm.Kb h2).1,by rw[h3];rfl⟩
theorem Gh.sets {w:World} {F:Nat→Prop} {M:Lit→Option Value} {MT:List Tm.Qu} {left:Lit→Bool} {P:List Xn} (h:Gh M MT left P) (ht:Ud w F M MT):∀ m∈P,Qr w F m.2 m.1.set:=fun m hm=>by
 obtain⟨-,h1,-,h2⟩:=h.elem m hm;have:=ht m.1.path;rw[h1] at this;obtain⟨v,e,hv⟩:=this;rw[h2] at e;have e:=Option.some.inj e;injection e with e;have e:[Value.string ⟨m.1.path.toArray⟩,.bool m.1.abs,m.2]=[.string ⟨m.1.path.toArray⟩,.bool m.1.abs,v]:=by injection e
 injection e with _ e;injection e with _ e;injection e with e _;rw[e];exact hv
theorem canT_never {L:List Tm.Qu} {t:Tm.Qu} {x:Tm.Qk} (h:Tm.Dy (Tm.Zn L) x=some t) (hn:Tm.Ws t=true):Tm.Zh L=none:=by unfold Tm.Zh;rw[if_pos (List.any_eq_true.2 ⟨t,(Tm.Kb h).1,hn⟩)]
theorem De:(prog.info? 248).map (fun i=>(i.zero,i.size,i.bytes))=some (some (.agg #[.string ⟨#[]⟩,.bool false,.slice none 0 0]),3,48):=by kernel_rfl
theorem St.trmsOf {lo:Nat} {w0 w:World} {Rs:List Q3} {v:Value} {n:Nat} {P:List Xn} (h:St lo w0 w (Qh 248 3 v n (P.flatMap X3)::Rs)) (hn:n=P.length) (hs:∀ m∈P,Qr w (fun k=>lo≤k) m.2 m.1.set):Zs w (fun k=>lo≤k) v (P.map Prod.fst):=by
 obtain⟨A,c,rfl,g1,g2⟩:=Q4 h.own;subst hn;refine⟨A,c,P,rfl,rfl,g1,g2,?_,hs⟩;rcases Nat.eq_zero_or_pos P.length with h0|h0
 ·exact .inl (by rw[List.eq_nil_of_length_eq_zero h0];rfl)
 ·obtain⟨g,c',eA,hg,-,-⟩:=Zx h.own h0
  obtain⟨rfl,-,rfl⟩:=Value.slice.inj eA;refine .inr ⟨g,0,rfl,h.ownLo.1,h.ownLo.2,fun i hi=>?_⟩;rw[Nat.zero_add];exact(h.cellAt (List.getElem?_eq_getElem hi)).1
theorem Gd (L:List Tm.Qu) (v:Value) (F:Nat→Prop) (w:World) (h:Zs w F v L) (hs:∀ t∈L,Yk t) (hL:L.length≤1048576):
 Calls prog 207 #[v] w fun e w'=>Below w.heap.size w w'∧∃ A n c,e=.returned (.tuple #[.slice A n c,.bool (Tm.Zh L).isSome])∧Zs w' (fun k=>w.heap.size≤k) (.slice A n c) ((Tm.Zh L).getD []):=by
 have km:=merge_spec L v F w h hs hL;obtain⟨A,c,ev,-,-⟩:=h.shape;subst ev;obtain⟨N,hN⟩:∃ N,L.length=N:=⟨_,rfl⟩;rw[hN] at km hL ⊢;clear h hs hN;go_enter func207,ntmps207;go_wp2_with fail;refine km.mono ?_;rintro e w1 ⟨n,M,rfl,hn,s1⟩;obtain⟨w2,r,Js,hcn,m2,s2⟩:=s1.mrange 342 J8 underlying342;have CS:=Kd (Gh.start (s1.pk [1]).tmAt);have S2:=Kd s2;have hcN:Js≤N:=Nat.le_trans hcn hn;clear km s1 s2 hcn hn;go_wp2
 go_loopw [4] (fun o wr=>∃(left:Lit→Bool) (Js:Nat) (P:List Xn),P.length+Js≤N∧Hid (Gh M (Tm.Zn L) left P)∧Hid (St w.heap.size w wr [rgR 9 w.heap.size r n M left Js,tmR M (Tm.Zn L),Qh 248 3 o P.length (P.flatMap X3)])) (fun _ wr=>wr.rangeLeft w.heap.size r)
 case atStart=>exact⟨_,Js,[],by simpa using hcN,CS,Kd ((S2.out.new_own (Below.refl _ w2) ⟨rfl,.inl ⟨rfl,rfl⟩⟩).pk [1,2,0])⟩
 case round=>
  obtain⟨left,Js,P,hq,hcame,hst⟩:=hrel;have so:=hst.out.pk [2,1,0];obtain⟨A1,c1,rfl,-,-⟩:=Q4 so.own;rcases hst.out.mnext (fun x:List UInt8=>Value.string ⟨x.toArray⟩) J8 invS 0 with⟨hl,m1⟩|⟨x,u,kl,W1,cnt',hkey,hlk,hMk,m1,m2,hlt,s1⟩
  ·have hse:=hcame.out.sets (so.pk [1]).tmAt
   have ks:=Af so rfl (fun m hm=>(hse m hm).shape) (by omega);have HC:=Kd hcame.out;clear hse so hst hcame;go_wp2_with fail;refine ks.mono ?_;rintro e w6 ⟨rfl,P',hp,hs,h6⟩;have hse:=HC.out.sets (h6.pk [1]).tmAt;have hf:=h6.trmsOf hp.length_eq.symm (fun m hm=>hse m (hp.mem_iff.1 hm));have HF:=Kd3 h6.below hf (HC.out.done hl hp hs);clear ks hse hf h6 hp hs hl;go_wp2;go_ret2;rw[HF.out.2.2];exact⟨HF.out.1,A1,P.length,c1,rfl,HF.out.2.1⟩
  ·obtain⟨rfl,-⟩:=Tj hkey
   have hT:=(s1.pk [1]).tmAt x
   cases ha:Tm.Dy (Tm.Zn L) x with
   | none=>
     rw[ha] at hT;rw[hMk] at hT
     cases hT
   | some t=>
     rw[ha] at hT;obtain⟨v,h1,h2⟩:=hT;rw[hMk] at h1;obtain rfl:=Option.some.inj h1;have hcf:=U6 (Nw L t (Tm.Kb ha).1);have hpa:=(Tm.Kb ha).2;have hst':=fun hn=>hcame.out.step hlk ha hMk hn;have hne:=fun hn=>canT_never ha hn;obtain⟨q,ab,s⟩:=t;dsimp only at hpa hcf h1 h2 hMk m1 m2;subst hpa;obtain⟨Av,nv,cv,rfl⟩:=h2.shape;obtain⟨W2,hW2⟩:∃ W2,W1.alloc (.cells #[.string ⟨q.toArray⟩,.bool ab,.slice Av nv cv] 248)=W2:=⟨_,rfl⟩;have y2:=s1.alloc 248 #[.string ⟨q.toArray⟩,.bool ab,.slice Av nv cv];rw[hW2] at y2;obtain⟨f0,-,f1,-,f2,-⟩:=G4 y2.blk;have h2':=h2.below (w':=W2) (by rw[←hW2];exact b1 _ _);have kn:=never_spec q ab s _ _ W2 h2' hcf;have ka:=fun W (hb:Below W2.heap.size W2 W)=>always_spec q ab s _ _ W (h2'.below hb) hcf;have HC:=Kd5 hst' hne hlt hst.out.left_eq hq;have Y2:=Kd y2;have q1:P.length+1≤maxLen :=(by unfold maxLen;omega);have q2:(P.length+1)*48≤140737488355328 :=(by omega);clear hst' hne hkey hlk hMk h1 h2 h2' hcf y2 s1 hst so hcame ha hlt hq;go_wp2_with fail;refine kn.mono ?_;rintro e w3 ⟨rfl,z3⟩;have y3:=Y2.out.under z3;obtain⟨g0,-,g1,-,g2,-⟩:=G4 y3.blk;have ka:=ka w3 z3;have Y3:=Kd y3;clear kn z3 y3 m1 m2 hW2
     cases hnv:Tm.Ws ⟨q,ab,s⟩ with
     |true =>clear ka;go_wp2;go_ret2;rw[HC.out.2.1 hnv];exact⟨Y3.out.below,none,0,0,rfl,Zs.nil _ _⟩
     | false=>
       go_wp2_with fail;refine ka.mono ?_;rintro e w4 ⟨rfl,z4⟩;have y4:=Y3.out.under z4;obtain⟨g3,-,g4,-,g5,-⟩:=G4 y4.blk;have hcm:=HC.out.1 hnv;clear ka z4
       cases hal:Tm.Wv ⟨q,ab,s⟩ with
       | true=>
         rw[if_pos hal] at hcm;have HM:=Kd hcm;have Y4:=Kd y4.tail;clear hcm y4;go_wp2
         go_roundw
         case rel=>exact⟨_,cnt',P,by have:=HC.out.2.2.1;have:=HC.out.2.2.2.2;omega,HM,Y4⟩
         case measure=>rw[HC.out.2.2.2.1,Y4.out.left_eq];exact HC.out.2.2.1
       | false=>
         rw[if_neg (by rw[hal];decide)] at hcm;have HM:=Kd hcm;have Y4:=Kd (y4.pk [3,1,2]);clear hcm y4;go_wp2_with (at_builtin;go_must (refine Nc 192 #[.string ⟨q.toArray⟩,.bool ab,.slice Av nv cv] Y4.out underlying192 De rfl (by decide) rfl _ _ rfl rfl rfl rfl (by intro u hu;simp at hu;rcases hu with rfl|rfl|rfl<;>rfl) q1 q2 ?_);intro v2 w8 h9);have H9:=Kd h9;clear h9;go_wp2
         go_roundw
         case rel=>exact⟨_,cnt',_,by rw[List.length_append];have:=HC.out.2.2.1;have:=HC.out.2.2.2.2;simp;omega,HM,Kd (by rw[List.length_append,List.flatMap_append];exact H9.out.pk [1,2,0])⟩
         case measure=>rw[HC.out.2.2.2.1,(H9.out.pk [1,2,0]).left_eq];exact HC.out.2.2.1
theorem Bw (p:Tm.Qk) (s:List Tm.Sp) (v:Value) (F:Nat→Prop) (w:World) (hs:Qr w F v s) (ls:s.length≤4294967296):
 Calls prog 204 #[.agg #[.string ⟨p.toArray⟩,v]] w fun e w'=>∃ A n c,e=.returned (.agg #[.string ⟨p.toArray⟩,.bool true,.slice A n c])∧Below w.heap.size w w'∧Qr w' (fun k=>w.heap.size≤k) (.slice A n c) (Tm.Zc s):=by
 obtain⟨A1,n1,c1,rfl⟩:=hs.shape;obtain⟨W2,hW2⟩:∃ W2,w.alloc (.cells #[.string ⟨p.toArray⟩,.slice A1 n1 c1] 43)=W2:=⟨_,rfl⟩;have y2:=(St.nil w).alloc 43 #[.string ⟨p.toArray⟩,.slice A1 n1 c1];rw[hW2] at y2;have l1:w.heap.size<W2.heap.size:=by rw[←hW2];simp
 obtain⟨W3,hW3⟩:∃ W3,W2.alloc (.cells #[.string ⟨#[]⟩,.bool false,.slice none 0 0] 248)=W3:=⟨_,rfl⟩;have y3:=y2.alloc 248 #[.string ⟨#[]⟩,.bool false,.slice none 0 0];rw[hW3] at y3;have hS:∀ W',Below W2.heap.size W3 W'→W'.cell? ⟨w.heap.size,0,none⟩=some (.string ⟨p.toArray⟩)∧W'.cell? ⟨w.heap.size,1,none⟩=some (.slice A1 n1 c1):=fun W' hb=>by have b:=y3.tail.blk;exact⟨(hb.cell l1).trans (b.cell 0),(hb.cell (p:=⟨w.heap.size,1,none⟩) l1).trans (b.cell 1)⟩
 have ki:∀ Wd,Below W3.heap.size W3 Wd→Calls prog 88 #[.slice A1 n1 c1] Wd fun e w'=>∃ A4 n4 c4,e=.returned (.slice A4 n4 c4)∧Below W3.heap.size W3 w'∧Qr w' (fun k=>w.heap.size≤k∧k≠W2.heap.size) (.slice A4 n4 c4) (Tm.Zc s):=fun Wd hd=>by
  refine(Kz s _ _ Wd (hs.below (y3.below.trans (hd.mono y3.below.size))) ls).mono ?_;rintro e w' ⟨v',rfl,z2,h2⟩;obtain⟨A4,n4,c4,rfl⟩:=h2.shape;refine⟨A4,n4,c4,rfl,hd.trans (z2.mono hd.size),h2.mono fun k hk=>?_⟩;have:=y2.below.size;have h3:W2.heap.size+1=W3.heap.size:=by rw[←hW3];simp
  have:=hd.size;constructor<;>omega
 have HS:=Kd hS;have KI:=Kd ki;have Y3:=Kd y3;have r0:Below W2.heap.size W3 W3:=Below.refl _ _;have r1:=Below.refl W3.heap.size W3;have l3:W2.heap.size≤W3.heap.size:=by rw[←hW3];simp
 clear hs y2 y3 hS ki ls l1;go_enter func204,ntmps204;go_wp2_with fail;clear hW2 hW3;refine wp_region_noPanic ?_;refine wp_region_held_drew (S:=(fun W'=>W'.cell? ⟨w.heap.size,0,none⟩=some (.string ⟨p.toArray⟩)∧W'.cell? ⟨w.heap.size,1,none⟩=some (.slice A1 n1 c1))) (by kernel_rfl) ?_ (fun hH0=>?_)
 ·exact HS.out _ r0.drew
 refine tk 0 3 hH0 ?_;refine tk 1 4 hH0 ?_;refine tk 2 5 hH0 ?_;refine tk 3 6 hH0 ?_;refine Zk [4] ?_;refine an 7 fun K hK=>?_
 go_simp;(
  with_reducible refine(KI.out _ r1.drew).mono ?_
  rintro e w4 ⟨A4,n4,c4,rfl,z4,s4⟩;have r2:Below W2.heap.size W3 w4:=z4.mono l3;have y4:=Y3.out.under z4
  obtain⟨f0,f1,f2,f3,f4,f5⟩:=G4 y4.blk);go_wp2_with fail
 refine hK.out _ _ ?_ (fun hH1=>?_)
 ·exact HS.out _ r2
 clear hK K hH0
 try simp only[pu]
 refine tk 5 8 hH1 ?_;refine Zk [6] ?_;refine az fun K hK=>?_;go_simp;refine hK.out _ _ ?_ (fun hH2=>?_)
 ·exact HS.out _ (((r2.setCell (Nat.le_refl _) _).setCell (Nat.le_refl _) _).setCell (Nat.le_refl _) _)
 clear hK K hH1
 try simp only[pu]
 refine dn ?_ _
 all_goals(refine NoPanic.normal ?_)
 have y5:=((y4.set_ 0 (.string ⟨p.toArray⟩)).set_ 1 (.bool true)).set_ 2 (.slice A4 n4 c4);simp only[List.setIfInBounds_toArray,List.set_cons_zero,List.set_cons_succ] at y5
 have hk:Qm (fun k=>w.heap.size≤k∧k≠W2.heap.size) w4 (((w4.setCell ⟨W2.heap.size,0,none⟩ (.string ⟨p.toArray⟩)).setCell ⟨W2.heap.size,1,none⟩ (.bool true)).setCell ⟨W2.heap.size,2,none⟩ (.slice A4 n4 c4)):=
  Qm.of_mod ((((Jp w4 W2.heap.size 0 _).trans (Jp _ W2.heap.size 1 _)).trans (Jp _ W2.heap.size 2 _))) (fun k hk e=>hk.2 e)
 have s5:=(s4.keep hk).mono (G:=fun k=>w.heap.size≤k) (fun k hk=>hk.1);have Y5:=Kd2 y5 s5;clear hk s5 y5 s4 z4 y4 f0 f1 f2 f3 f4 f5 r0 r1 r2 HS KI Y3;generalize (((w4.setCell ⟨W2.heap.size,0,none⟩ (.string ⟨p.toArray⟩)).setCell ⟨W2.heap.size,1,none⟩ (.bool true)).setCell ⟨W2.heap.size,2,none⟩ (.slice A4 n4 c4))=w5 at Y5 ⊢;go_wp2;refine bodyPost_ret (Jc rfl _ _ _ _ _ _ _ rfl Y5.out.1.blk underlying248 rfl Xs) rfl ?_;exact⟨_,_,_,rfl,Y5.out.1.below,Y5.out.2⟩
theorem O2 (L:List Tm.Qu) (v:Value) (F:Nat→Prop) (w:World) (h:Zs w F v L) (hs:∀ t∈L,Yk t) (hL:L.length≤1048576):
 Calls prog 203 #[v] w fun e w'=>∃ A n c,e=.returned (.slice A n c)∧Below w.heap.size w w'∧Zs w' (fun k=>w.heap.size≤k) (.slice A n c) (Tm.ofT L):=by
 have km:=Gd L v F w h hs hL;obtain⟨A,c,ev,-,-⟩:=h.shape;subst ev;obtain⟨N,hN⟩:∃ N,L.length=N:=⟨_,rfl⟩;rw[hN] at km hL ⊢
 have ho:(Tm.Zh L).getD []=Tm.ofT L:=by
  unfold Tm.ofT
  cases Tm.Zh L<;>rfl
 rw[ho] at km;clear h hs hN ho;generalize (Tm.Zh L).isSome=b at km;go_enter func203,ntmps203;go_wp2_with fail;refine km.mono ?_;rintro e w1 ⟨z1,A1,n1,c1,rfl,s1⟩;have Z1:=Kd2 z1 s1;clear km z1 s1;go_wp2;go_ret;exact⟨A1,n1,c1,rfl,Z1.out.1,Z1.out.2⟩
theorem trms1 {w w':World} {t:Tm.Qu} {v:Value} {te:TypeId} (hb:Below (w.heap.size+1) (w.alloc (.cells #[.string ⟨t.path.toArray⟩,.bool t.abs,v] te)) w') (h:Qr w (fun _=>True) v t.set):Zs w' (fun _=>True) (.slice (some ⟨w.heap.size,0,none⟩) 1 1) [t]:=by
 have b:=Uc.new w te #[.string ⟨t.path.toArray⟩,.bool t.abs,v]
 have h2:Zs (w.alloc (.cells #[.string ⟨t.path.toArray⟩,.bool t.abs,v] te)) (fun _=>True) (.slice (some ⟨w.heap.size,0,none⟩) 1 1) [t]:=by
  refine⟨_,1,[(t,v)],rfl,rfl,Nat.le_refl _,by decide,.inr ⟨w.heap.size,0,rfl,trivial,b.lt,fun j hj=>?_⟩,fun m hm=>?_⟩
  ·match j,hj with
   |0,_=>exact b.cell 0
   |1,_=>exact b.cell 1
   |2,_=>exact b.cell 2
  ·obtain rfl:=List.mem_singleton.1 hm
   exact h.below (b1 w _)
 exact h2.below (hb.mono (by simp))
theorem trms2 {w w':World} {t t2:Tm.Qu} {v v2:Value} {te:TypeId} (hb:Below (w.heap.size+1) (w.alloc (.cells #[.string ⟨t.path.toArray⟩,.bool t.abs,v,.string ⟨t2.path.toArray⟩,.bool t2.abs,v2] te)) w') (h:Qr w (fun _=>True) v t.set) (h2:Qr w (fun _=>True) v2 t2.set):Zs w' (fun _=>True) (.slice (some ⟨w.heap.size,0,none⟩) 2 2) [t,t2]:=by
 have b:=Uc.new w te #[.string ⟨t.path.toArray⟩,.bool t.abs,v,.string ⟨t2.path.toArray⟩,.bool t2.abs,v2]
 have h3:Zs (w.alloc (.cells #[.string ⟨t.path.toArray⟩,.bool t.abs,v,.string ⟨t2.path.toArray⟩,.bool t2.abs,v2] te)) (fun _=>True) (.slice (some ⟨w.heap.size,0,none⟩) 2 2) [t,t2]:=by
  refine⟨_,2,[(t,v),(t2,v2)],rfl,rfl,Nat.le_refl _,by decide,.inr ⟨w.heap.size,0,rfl,trivial,b.lt,fun j hj=>?_⟩,fun m hm=>?_⟩
  ·match j,hj with
   |0,_=>exact b.cell 0
   |1,_=>exact b.cell 1
   |2,_=>exact b.cell 2
   |3,_=>exact b.cell 3
   |4,_=>exact b.cell 4
   |5,_=>exact b.cell 5
  ·rcases List.mem_cons.1 hm with rfl|hm
   ·exact h.below (b1 w _)
   ·obtain rfl:=List.mem_singleton.1 hm
    exact h2.below (b1 w _)
 exact h3.below (hb.mono (by simp))
theorem root_spec (q:Tm.Qw) (v:Value) (F:Nat→Prop) (w:World) (hs:Qr w F v q.set) (hq:Zu q):
 Calls prog 148 #[.agg #[.string ⟨q.path.toArray⟩,v]] w fun e w'=>∃ A n c,e=.returned (.slice A n c)∧Below w.heap.size w w'∧Zs w' (fun k=>w.heap.size≤k) (.slice A n c) (Tm.Ux q):=by
 obtain⟨A1,n1,c1,rfl⟩:=hs.shape;obtain⟨W2,hW2⟩:∃ W2,w.alloc (.cells #[.string ⟨q.path.toArray⟩,.slice A1 n1 c1] 43)=W2:=⟨_,rfl⟩;have y2:=(St.nil w).alloc 43 #[.string ⟨q.path.toArray⟩,.slice A1 n1 c1];rw[hW2] at y2;have f0:=y2.blk.cell 0;have f1:=y2.blk.cell 1;have ko:=Bw q.path q.set _ _ W2 (hs.below y2.below) hq.1;have Z2:=Kd y2.below;clear hs y2;go_enter func148,ntmps148;go_wp2_with fail;refine ko.mono ?_;rintro e w3 ⟨A3,n3,c3,rfl,z3,s3⟩
 have ks:∀ W',Below (w3.heap.size+1) (w3.alloc (.cells #[.string ⟨q.path.toArray⟩,.bool true,.slice A3 n3 c3] 248)) W'→_:=fun W' hb=>O2 [Tm.Q6 q] _ _ W' (trms1 (t:=Tm.Q6 q) hb s3.any) (fun t ht=>by
  obtain rfl:=List.mem_singleton.1 ht
  exact⟨K0 _,hq.2⟩) (by simp)
 have Z3:=Kd (Z2.out.trans (z3.mono Z2.out.size));have ks:=ks _ (Below.refl _ _);clear ko z3 s3;go_wp2_with fail;refine ks.mono ?_;rintro e w4 ⟨A4,n4,c4,rfl,z4,s4⟩;have hz:w.heap.size≤(w3.alloc (.cells #[.string ⟨q.path.toArray⟩,.bool true,.slice A3 n3 c3] 248)).heap.size:=by have:=Z3.out.size;simp;omega
 have Z4:=Kd2 ((Z3.out.alloc Z3.out.size _).trans (z4.mono hz)) (s4.mono fun k hk=>Nat.le_trans hz hk);clear ks z4 s4;go_wp2;go_ret;exact⟨A4,n4,c4,rfl,Z4.out.1,Z4.out.2⟩
theorem none_spec (p:Tm.Qk) (s:List Tm.Sp) (v:Value) (F:Nat→Prop) (w:World) (hs:Qr w F v s) (ls:s.length≤4294967296) (hp:p.length≤4294967000):
 Calls prog 152 #[.string ⟨p.toArray⟩,v] w fun e w'=>∃ A n c,e=.returned (.slice A n c)∧Below w.heap.size w w'∧Zs w' (fun k=>w.heap.size≤k) (.slice A n c) (Tm.Xc p s):=by
 obtain⟨A1,n1,c1,rfl⟩:=hs.shape;have ko:=Kz s _ _ w hs ls;clear hs;go_enter func152,ntmps152;go_wp2_with fail;refine ko.mono ?_;rintro e w3 ⟨v3,rfl,z3,s3⟩;obtain⟨A3,n3,c3,rfl⟩:=s3.shape
 have ks:=O2 [⟨p,false,Tm.Zc s⟩] _ _ (w3.alloc (.cells #[.string ⟨p.toArray⟩,.bool false,.slice A3 n3 c3] 248)) (trms1 (t:=⟨p,false,Tm.Zc s⟩) (Below.refl _ _) s3.any) (fun t ht=>by
  obtain rfl:=List.mem_singleton.1 ht
  exact⟨K0 _,hp⟩) (by simp)
 have Z3:=Kd z3;clear ko z3 s3;go_wp2_with fail;refine ks.mono ?_;rintro e w4 ⟨A4,n4,c4,rfl,z4,s4⟩;have hz:w.heap.size≤(w3.alloc (.cells #[.string ⟨p.toArray⟩,.bool false,.slice A3 n3 c3] 248)).heap.size:=by have:=Z3.out.size;simp;omega
 have Z4:=Kd2 ((Z3.out.alloc Z3.out.size _).trans (z4.mono hz)) (s4.mono fun k hk=>Nat.le_trans hz hk);clear ks z4 s4;go_wp2;go_ret;exact⟨A4,n4,c4,rfl,Z4.out.1,Z4.out.2⟩
theorem Fb (p:Tm.Qk) (pl:Int) (q:Tm.Qw) (v:Value) (F:Nat→Prop) (w:World) (hs:Qr w F v q.set) (hq:Zu q) (hp:p.length≤4294967000) (h0:0≤pl) (h1:pl<1000000):
 Calls prog 149 #[.string ⟨p.toArray⟩,.int .i64 pl,.agg #[.string ⟨q.path.toArray⟩,v]] w fun e w'=>∃ A n c,e=.returned (.slice A n c)∧Below w.heap.size w w'∧Zs w' (fun k=>w.heap.size≤k) (.slice A n c) (Tm.G0 p pl q):=by
 obtain⟨A1,n1,c1,rfl⟩:=hs.shape;obtain⟨W1,hW1⟩:∃ W1,w.alloc (.cells #[.string ⟨q.path.toArray⟩,.slice A1 n1 c1] 43)=W1:=⟨_,rfl⟩;have y1:=(St.nil w).alloc 43 #[.string ⟨q.path.toArray⟩,.slice A1 n1 c1];rw[hW1] at y1;obtain⟨W2,hW2⟩:∃ W2,W1.alloc (.cells #[.int .i64 pl,.int .i64 (pl+1)] 79)=W2:=⟨_,rfl⟩;have y2:=y1.alloc 79 #[.int .i64 pl,.int .i64 (pl+1)];rw[hW2] at y2;have f0:=y2.tail.blk.cell 0;have f1:=y2.tail.blk.cell 1
 have sp:Qr W2 (fun k=>k=W1.heap.size) (.slice (some ⟨W1.heap.size,0,none⟩) 1 1) [(pl,pl+1)]:=⟨_,1,rfl,Nat.le_refl _,by decide,.inr ⟨W1.heap.size,0,rfl,rfl,y2.blk.lt,fun j hj=>by
  match j,hj with
  |0,_=>exact y2.blk.cell 0
  |1,_=>exact y2.blk.cell 1⟩⟩
 have ko:=Bw q.path q.set _ _ W2 (hs.below y2.below) hq.1;have wr1:IntKind.i64.wrap (pl+1)=pl+1:=by rw[IntKind.wrap_i64];omega
 have Z2:=Kd2 y2.below sp;clear hs y2 y1 sp;go_enter func149,ntmps149;go_wp2_with fail;refine ko.mono ?_;rintro e w3 ⟨A3,n3,c3,rfl,z3,s3⟩
 have ks:=O2 [⟨p,false,[(pl,pl+1)]⟩,Tm.Q6 q] _ _ (w3.alloc (.cells #[.string ⟨p.toArray⟩,.bool false,.slice (some ⟨W1.heap.size,0,none⟩) 1 1,.string ⟨q.path.toArray⟩,.bool true,.slice A3 n3 c3] 248)) (trms2 (t:=⟨p,false,[(pl,pl+1)]⟩) (t2:=Tm.Q6 q) (Below.refl _ _) (Z2.out.2.below z3).any s3.any) (fun t ht=>by
  rcases List.mem_cons.1 ht with rfl|ht
  ·exact⟨by simp,hp⟩
  ·obtain rfl:=List.mem_singleton.1 ht
   exact⟨K0 _,hq.2⟩) (by simp)
 have Z3:=Kd (Z2.out.1.trans (z3.mono Z2.out.1.size));clear ko z3 s3 hW2 hW1;go_wp2_with fail;refine ks.mono ?_;rintro e w4 ⟨A4,n4,c4,rfl,z4,s4⟩;have hz:w.heap.size≤(w3.alloc (.cells #[.string ⟨p.toArray⟩,.bool false,.slice (some ⟨W1.heap.size,0,none⟩) 1 1,.string ⟨q.path.toArray⟩,.bool true,.slice A3 n3 c3] 248)).heap.size:=by have:=Z3.out.size;simp;omega
 have Z4:=Kd2 ((Z3.out.alloc Z3.out.size _).trans (z4.mono hz)) (s4.mono fun k hk=>Nat.le_trans hz hk);clear ks z4 s4;go_wp2;go_ret;exact⟨A4,n4,c4,rfl,Z4.out.1,Z4.out.2⟩
section
variable {lo:Nat} {w0 w:World} {Rs:List Q3} {e:TypeId} {size g n c:Nat}
theorem St.puts:∀(vs:List Value) (o:Nat) {w:World} {xs:List Value},St lo w0 w (Qh e size (.slice (some ⟨g,0,none⟩) n c) n xs::Rs)→xs.length=n*size→o+vs.length≤n*size→
 St lo w0 (w.setCells g o vs) (Qh e size (.slice (some ⟨g,0,none⟩) n c) n (xs.take o++vs++xs.drop (o+vs.length))::Rs)
 |[],o,w,xs,h,hl,ho=>by have e1:xs.take o++[]++xs.drop (o+([]:List Value).length)=xs :=(by simp);rw[e1];exact h
 | v::vs,o,w,xs,h,hl,ho=>by
   rw[List.length_cons] at ho;have h2:=St.puts vs (o+1) (h.put o (by omega) v) (by rw[List.length_set];exact hl) (by omega)
   have e1:(xs.set o v).take (o+1)++vs++(xs.set o v).drop (o+1+vs.length)=xs.take o++(v::vs)++xs.drop (o+(v::vs).length):=by
    rw[List.length_cons,List.drop_set_of_lt (by omega),show o+1+vs.length=o+(vs.length+1) by omega]
    congr 1
    rw[List.take_set,List.take_succ_eq_append_getElem (by omega),List.set_append_right _ _ (by rw[List.length_take];omega)];simp[List.length_take,Nat.min_eq_left (by omega:o≤xs.length)]
   rw[e1] at h2;exact h2
theorem St.cutRow {m:Nat} {xs:List Value} (h:St lo w0 w (Qh e size (.slice (some ⟨g,0,none⟩) n c) n xs::Rs)) (hm:m≤n):St lo w0 w (Qh e size (.slice (some ⟨g,0,none⟩) m c) m (xs.take (m*size))::Rs):=h.turn fun F hF=>by
 obtain⟨⟨hl,h1⟩,h2,h3⟩:=hF;refine⟨⟨?_,?_⟩,fun k hk=>h2 k hk,h3⟩
 ·have:=Nat.mul_le_mul_right size hm
  rw[List.length_take];omega
 ·rcases h1 with⟨h1,-⟩|⟨g',cap,cur,h1,hb,hg,h4,h5,h6,h7⟩
  ·cases h1
  ·obtain⟨e1,-,rfl⟩:=Value.slice.inj h1
   have e1:=Option.some.inj e1;injection e1 with e1 _ _;subst e1;refine .inr ⟨g,c,cur,rfl,hb,hg,by omega,h5,h6,?_⟩;rw[←h7,List.take_take,Nat.min_eq_left (Nat.mul_le_mul_right size hm)]
end
theorem run_cut (t e:TypeId) {size:Nat} (ht:prog.underlying t=some (.slice e)) (h0:0<size) (hz:∀ w,(sizeOf e).run prog w=.ok size w) (b n c j:Nat) (hj:j≤n):∃ B,(j<c→B=some ⟨b,j*size,none⟩)∧
 (∀ W,(Instr.sliceAt t (.slice (some ⟨b,0,none⟩) n c) (some (.int .i64 (j:Int))) none none).run prog W=.ok (.slice B (n-j) (c-j)) W)∧
 ∀ W,(Instr.slice t (.slice (some ⟨b,0,none⟩) n c) (some (.int .i64 (j:Int))) none none).run prog W=.ok (.slice B (n-j) (c-j)) W:=by
 have he:prog.elem t=e:=by simp[Program.elem,ht]
 have ht':prog.underlying t=some (.slice (prog.elem t)):=by rw[he,ht]
 have h2:∀ W,(Instr.slice t (.slice (some ⟨b,0,none⟩) n c) (some (.int .i64 (j:Int))) none none).run prog W=.ok (.slice (if c=j then some ⟨b,0,none⟩ else some ((⟨b,0,none⟩:Addr).add (j*size))) (n-j) (c-j)) W:=fun W=>by rw[run_slice_l W t _ _ _ ht' .i64 (j:Int) (by omega) (by omega),he,hz];simp[Result.andThen,sliced]
 refine⟨_,fun h=>?_,fun W=>by rw[run_sliceAt_slice W t _ _ _ _ ht',h2],h2⟩;rw[if_neg (by omega),Addr.add_lit,Nat.zero_add]
theorem Oo {w w':World} {ops:Array Oper} {o:Oper} {a:Act} {K:Act→World→Prop} {Q:Exit→Act→World→Prop} {E:Prop} {u x v:Value} {t:TypeId} (so xo:Operand) (hop:o.op=.call { callee:=.builtin .append,args:=#[so,xo],argTypes:=#[t,t] }) (hgd:o.guard=none)
 (hs:a.eval so=u) (hx:a.eval xo=x) (hrun:∀ ty,(Builtin.append_ #[t,t] ty #[u,x]).run prog w=.ok v w') (hK:K (a.put o.dst v) w'):
 if Region.wanted o (yielded ops a.tmps)=true then Oper.wp prog o a w K Q else E:=by
 rw[if_pos (by unfold Region.wanted;rw[hgd])];unfold Oper.wp;simp[execOp,hop,resolve,invoke,builtin,hs,hx,hrun,Result.andThen];exact hK
theorem Hj (P:List Xn):(P.flatMap X3).length=P.length*3:=Gs (enc:=X3) (k:=3) (fun _=>rfl) P
theorem On {P:List Xn} (h:∀ m∈P,m.2.oneCell'=true):∀ u∈P.flatMap X3,u.oneCell'=true:=fun u hu=>by
 obtain⟨m,hm,hu⟩:=List.mem_flatMap.1 hu;simp[X3] at hu;rcases hu with rfl|rfl|rfl
 ·rfl
 ·rfl
 ·exact h m hm
theorem cloneT_spec (A:Option Addr) (P:List Xn) (c:Nat) (F:Nat→Prop) (w:World) (hr:Z9 w F A (P.flatMap X3)) (h1:∀ m∈P,m.2.oneCell'=true) (hL:P.length≤1048576):
 Calls prog 253 #[.slice A P.length c] w fun e w'=>∃ A' c',e=.returned (.slice A' P.length c')∧St w.heap.size w w' [Qh 248 3 (.slice A' P.length c') P.length (P.flatMap X3)]:=by
 obtain⟨n,hn⟩:∃ n,P.length=n:=⟨_,rfl⟩;have kn:=fun w=>Lib.run_eql_slice_nil (P:=prog) w 192 248 A n c 0 0 underlying192;have hfl:=Hj P;have hone:=On h1;rw[hn] at hL hfl ⊢
 cases A with
 | none=>
   obtain rfl:P=[]:=by
    rcases hr with hr|⟨b,off,e,-⟩
    ·cases P with
     |nil=>rfl
     |cons a P=>cases hr
    ·cases e
   obtain rfl:n=0:=hn.symm;clear hr h1 hL hn hfl hone;go_enter func253,ntmps253;go_wp2;go_ret;exact⟨none,0,rfl,(St.nil w).new_own (Below.refl _ w) ⟨rfl,.inl ⟨rfl,rfl⟩⟩⟩
 | some a=>
   have y0:St w.heap.size w (w.alloc (.cells #[] 248)) [Qh 248 3 (.slice (some ⟨w.heap.size,0,none⟩) 0 0) 0 []]:=(St.nil w).new_own (b1 w _) (World.ownsRow_lit w #[] 0 (Nat.le_refl _) (by decide) rfl)
   have hnews:∀ j u,(P.flatMap X3)[j]?=some u→(w.alloc (.cells #[] 248)).cell? (a.add j)=some u:=fun j u hu=>by
    rcases hr with hr|⟨b,off,e,-,hb,hc⟩
    ·rw[hr] at hu
     cases hu
    ·obtain rfl:=Option.some.inj e
     obtain⟨hj,rfl⟩:=List.getElem?_eq_some_iff.1 hu;rw[Addr.add_lit,(b1 w _).cell hb];exact hc j hj
   have Y0:=Kd y0;have HN:=Kd hnews;have HO:=Kd hone;have q1:0+n≤maxLen :=(by unfold maxLen;omega);have q2:(0+n)*48≤140737488355328 :=(by omega);clear hr y0 hnews hone h1;go_enter func253,ntmps253;go_wp2_with (at_builtin;go_must (refine W9 192 Y0.out underlying192 De rfl (by decide) rfl _ _ rfl rfl a n c (P.flatMap X3) rfl hfl HN.out HO.out q1 q2 ?_);intro v1 w1 h1);have h1:St w.heap.size w w1 [Qh 248 3 v1 n (P.flatMap X3)] :=(by simpa using h1);obtain⟨A1,c1,rfl,-,-⟩:=Q4 h1.own;have H1:=Kd h1;clear h1;go_wp2;go_ret;exact⟨A1,c1,rfl,H1.out⟩
theorem tmC_take (P:List Xn) (i:Nat):(P.flatMap X3).take (i*3)=(P.take i).flatMap X3:=by
 induction P generalizing i with
 |nil=>simp
 | cons a P ih=>
   cases i with
   |zero=>simp
   |succ i =>rw[List.flatMap_cons,List.take_succ_cons,List.flatMap_cons,List.take_append,show (X3 a).length=3 from rfl,show (i+1)*3-3=i*3 by omega,ih i,List.take_of_length_le (by show 3≤_;omega)]
theorem tmC_drop (P:List Xn) (i:Nat):(P.flatMap X3).drop (i*3)=(P.drop i).flatMap X3:=by
 induction P generalizing i with
 |nil=>simp
 | cons a P ih=>
   cases i with
   |zero=>simp
   |succ i =>rw[List.flatMap_cons,List.drop_succ_cons,List.drop_append,show (X3 a).length=3 from rfl,show (i+1)*3-3=i*3 by omega,ih i,List.drop_eq_nil_of_le (by show 3≤_;omega),List.nil_append]
theorem run_clearT (w:World) (ty:TypeId) (b o c:Nat) (hc:∀ j,j<3→(w.cell? ⟨b,o+j,none⟩).isSome=true) (hf:∀ j,j<3→w.frozen? ⟨b,o+j,none⟩=false):
 (Builtin.clear_ #[192] ty #[.slice (some ⟨b,o,none⟩) 1 c]).run prog w=.ok (.tuple #[]) (w.setCells b o [.string ⟨#[]⟩,.bool false,.slice none 0 0]):=by
 have hst:=run_storeCells_cells (P:=prog) b o [.string ⟨#[]⟩,.bool false,.slice none 0 0] 0 w (by simpa using hc) (by simpa using hf) (by intro v hv;simp at hv;rcases hv with rfl|rfl|rfl<;>rfl);simp only[Nat.add_zero] at hst;have hz:(Builtin.zeroCells (Value.agg #[.string ⟨#[]⟩,.bool false,.slice none 0 0]).cells 1).toList=[.string ⟨#[]⟩,.bool false,.slice none 0 0]:=by kernel_rfl
 simp[Builtin.clear_,run_underlying underlying192,hz,hst]
theorem delT_spec {lo:Nat} {w0 w:World} {Rs:List Q3} {A:Option Addr} {c:Nat} {P:List Xn} {i m:Nat} (h:St lo w0 w (Qh 248 3 (.slice A (m+1) c) (m+1) (P.flatMap X3)::Rs)) (hP:P.length=m+1) (hi:i≤m) (h1:∀ x∈P,x.2.oneCell'=true) (hm:m≤1048576):
 Calls prog 252 #[.slice A (m+1) c,.int .i64 (i:Int),.int .i64 ((i:Int)+1)] w fun e w'=>e=.returned (.slice A m c)∧St lo w0 w' (Qh 248 3 (.slice A m c) m ((P.eraseIdx i).flatMap X3)::Rs):=by
 obtain⟨g,c',e0,hg,hc1,hc2⟩:=Zx h.own (Nat.succ_pos m);obtain⟨rfl,-,rfl⟩:=Value.slice.inj e0;have hfl:=Hj P;rw[hP] at hfl;obtain⟨j,hj⟩:∃ j,i+1=j:=⟨_,rfl⟩;obtain⟨k,hk⟩:∃ k,m+1-j=k:=⟨_,rfl⟩;obtain⟨B,hB,z1,z2⟩:=run_cut 192 248 underlying192 (by decide) (fun w=>Tryz.sizeOf248 w) g (m+1) c j (by omega);rw[hk,show ((j:Nat):Int)=(i:Int)+1 by omega] at z1 z2;obtain⟨news,hnews⟩:∃ news,(P.drop j).flatMap X3=news:=⟨_,rfl⟩;have hnl:news.length=k*3:=by rw[←hnews,Hj,List.length_drop,hP,hk]
 have hone:∀ u∈news,u.oneCell'=true:=by rw[←hnews];exact On fun x hx=>h1 x (List.mem_of_mem_drop hx)
 obtain⟨i0,hi0,hz0,hz1,hz2⟩:=info_parts De
 have hsrc:∀ W,St lo w0 W (Qh 248 3 (.slice (some ⟨g,0,none⟩) (m+1) c) (m+1) (P.flatMap X3)::Rs)→Src prog i0.size 192 (.slice B k (c-j)) k news W:=fun W hW=>by
  rw[hz1];rcases Nat.lt_or_ge j c with hjc|hjc
  ·rw[hB hjc]
   refine Src.ofSlice W underlying192 _ k _ news hnl (fun t u hu=>?_) hone;rw[Addr.add_lit];have:(P.flatMap X3)[j*3+t]?=some u :=(by rw[←hnews,←tmC_drop,List.getElem?_drop] at hu;exact hu);exact(hW.cellAt this).1
  ·obtain rfl:k=0:=by omega
   obtain rfl:news=[]:=List.eq_nil_of_length_eq_zero (by rw[hnl])
   cases B with
   |none=>exact Src.ofNil W underlying192 _
   |some a=>exact Src.ofSlice W underlying192 a 0 _ [] rfl (fun t u hu=>by cases hu) (fun u hu=>by cases hu)
 have happ:∀ W,St lo w0 W (Qh 248 3 (.slice (some ⟨g,0,none⟩) (m+1) c) (m+1) (P.flatMap X3)::Rs)→∃ W1,(∀ ty,(Builtin.append_ #[192,192] ty #[.slice (some ⟨g,0,none⟩) i c,.slice B k (c-j)]).run prog W=.ok (.slice (some ⟨g,0,none⟩) (i+k) c) W1)∧
  ∃ Y,Y.take (m*3)=(P.eraseIdx i).flatMap X3∧Y.length=(m+1)*3∧St lo w0 W1 (Qh 248 3 (.slice (some ⟨g,0,none⟩) (m+1) c) (m+1) Y::Rs):=fun W hW=>by
  have hcell:∀ t,t<news.length→(W.cell? ⟨g,0+i*i0.size+t,none⟩).isSome=true∧W.frozen? ⟨g,0+i*i0.size+t,none⟩=false:=fun t ht=>by rw[hz1,Nat.zero_add];obtain⟨u,hu⟩:∃ u,(P.flatMap X3)[i*3+t]?=some u:=⟨_,List.getElem?_eq_getElem (by omega)⟩;obtain⟨q1,q2⟩:=hW.cellAt hu;exact⟨by rw[q1];rfl,q2⟩
  refine⟨_,fun ty=>run_append_room_src (P:=prog) W 192 192 ty 248 i0 underlying192 hi0 g 0 i c _ k news (hsrc W hW) (by omega) (fun t ht=>(hcell t ht).1) (fun t ht=>(hcell t ht).2),(P.flatMap X3).take (0+i*i0.size)++news++(P.flatMap X3).drop (0+i*i0.size+news.length),?_,?_,?_⟩
  ·rw[hz1,Nat.zero_add,List.take_append_of_le_length (by rw[List.length_append,List.length_take,hnl,hfl];omega),List.take_of_length_le (by rw[List.length_append,List.length_take,hnl,hfl];omega),tmC_take,←hnews,←List.flatMap_append,List.eraseIdx_eq_take_drop_succ,hj]
  ·rw[hz1,List.length_append,List.length_append,List.length_take,List.length_drop,hnl,hfl]
   omega
  ·exact hW.puts news _ hfl (by rw[hz1,hnl];omega)
 have hcl:∀ W1 Y,Y.length=(m+1)*3→St lo w0 W1 (Qh 248 3 (.slice (some ⟨g,0,none⟩) (m+1) c) (m+1) Y::Rs)→∃ W2,(∀ ty,(Builtin.clear_ #[192] ty #[.slice (some ⟨g,m*3,none⟩) 1 (c-m)]).run prog W1=.ok (.tuple #[]) W2)∧St lo w0 W2 (Qh 248 3 (.slice (some ⟨g,0,none⟩) m c) m (Y.take (m*3))::Rs):=fun W1 Y hY hW=>by
  have hcell:∀ t,t<3→(W1.cell? ⟨g,m*3+t,none⟩).isSome=true∧W1.frozen? ⟨g,m*3+t,none⟩=false:=fun t ht=>by obtain⟨u,hu⟩:∃ u,Y[m*3+t]?=some u:=⟨_,List.getElem?_eq_getElem (by omega)⟩;obtain⟨q1,q2⟩:=hW.cellAt hu;exact⟨by rw[q1];rfl,q2⟩
  refine⟨_,fun ty=>run_clearT W1 ty g (m*3) (c-m) (fun t ht=>(hcell t ht).1) (fun t ht=>(hcell t ht).2),?_⟩;have h2:=(hW.puts [.string ⟨#[]⟩,.bool false,.slice none 0 0] (m*3) hY (by simp;omega)).cutRow (m:=m) (by omega);rw[List.append_assoc,List.take_append_of_le_length (by rw[List.length_take];omega),List.take_take,Nat.min_self] at h2;exact h2
 have hik:i+k=m:=by omega
 rw[hik] at happ;have e1:¬((i:Int)=(i:Int)+1):=by omega
 have i1:(0:Int)≤(i:Int):=by omega
 have i2:(i:Int)≤(i:Int)+1:=by omega
 have i3:(i:Int)+1≤((m+1:Nat):Int):=by omega
 have i4:((m+1:Nat):Int)≤(c:Int):=by omega
 have n1:¬(m+1=i):=by omega
 have n2:¬(c=0):=by omega
 have n3:¬(c=m):=by omega
 have S0:=Kd h;have HA:=Kd happ;have HC:=Kd hcl;clear h happ hcl hsrc hone hnl hnews hfl h1 hB hP hik hk;go_enter func252,ntmps252;go_wp2_with fail;refine wp_region_noPanic ?_;refine wp_region_held_drew (S:=(fun _=>True)) (by kernel_rfl) ?_ (fun hH0=>?_)
 ·(trivial)
 refine tk 0 20 hH0 ?_;refine tk 1 21 hH0 ?_;refine tk 3 23 hH0 ?_;refine tk 4 24 hH0 ?_;refine tk 5 25 hH0 ?_;refine Zk [2] ?_;refine an 22 fun K hK=>?_
 go_simp;go_wp2_with ((first
  | (obtain⟨W1,u1,Y,y1,y2,s1⟩:=HA.out _ S0.out
     refine Oo _ _ rfl rfl rfl rfl u1 ?_)
  | (obtain⟨W1,u1,Y,y1,y2,s1⟩:=HA.out _ S0.out.drew
     refine Oo _ _ rfl rfl rfl rfl u1 ?_)
  |fail))
 refine hK.out _ _ ?_ (fun hH1=>?_)
 ·(trivial)
 clear hK K hH0
 try simp only[pu]
 refine Zk [6] ?_;refine an 26 fun K hK=>?_
 (
  obtain⟨W1,u1,Y,y1,y2,s1⟩:=HA.out _ S0.out.drew
  refine Oo _ _ rfl rfl rfl rfl u1 ?_)
 refine hK.out _ _ ?_ (fun hH2=>?_)
 ·(trivial)
 clear hK K hH1
 try simp only[pu]
 refine tk 7 0 hH2 ?_;refine dn ?_ _
 all_goals(refine NoPanic.normal ?_)
 obtain⟨W2,u2,s2⟩:=HC.out _ _ y2 s1;rw[y1] at s2;have S2:=Kd s2;clear s1 s2 y1 y2;go_wp2;go_ret;exact⟨rfl,S2.out⟩
theorem B0:∀(N:Nat) (S:List Nat),S.Nodup→(∀ i∈S,i<N)→S.length≤N
 | 0,S,_,h=>by
   cases S with
   |nil=>exact Nat.le_refl _
   |cons a S=>exact absurd (h a (List.mem_cons_self ..)) (Nat.not_lt_zero _)
 | N+1,S,hn,h=>by
   have h1:=B0 N (S.erase N) (hn.erase N) (fun i hi=>by
    obtain⟨h2,h3⟩:=(hn.mem_erase_iff).1 hi;have:=h i h3
    omega)
   rw[List.length_erase] at h1
   split at h1<;>omega
theorem Lf.len {X:List Qi} {Q:List Tm.Qw} {S T:List Nat} {G:Tm.Qk→Option Nat} (h:Lf (X.map Qf) Q S T G):S.length≤X.length:=B0 _ _ h.nodup fun i hi=>by obtain⟨r,hr,-⟩:=(h.nmS i hi).there;have:=(List.getElem?_eq_some_iff.1 hr).1;rw[List.length_map] at this;exact this
theorem St.graft {lo:Nat} {w0 w w':World} {Rs Rs':List Q3} (h:St lo w0 w Rs) (k:St w.heap.size w w' Rs'):St lo w0 w' (Rs'++Rs):=
 ⟨h.below.trans (k.below.mono h.size),h.base,Zz.append (F:=fun j=>w.heap.size≤j) (V:=fun j=>lo≤j∧j<w.heap.size) k.held (h.held.lt.mod (U9.of_below k.below (fun _=>False)) (fun _ _ h=>h))
   (fun j hj=>⟨Nat.le_trans h.size hj,fun hv=>by have:=hv.2;omega⟩) (fun j hj=>hj.1)⟩
theorem St.drop {lo:Nat} {w0 w:World} {Rs:List Q3} (h:St lo w0 w Rs):St lo w0 w []:=⟨h.below,h.base,trivial⟩
def SeenI (M:Lit→Option Value) (S:List Nat):Prop:=∀ i:Nat,M (.int .i64 (i:Int))=if i∈S then some (.bool true) else none
theorem SeenI.put {M:Lit→Option Value} {S:List Nat} (h:SeenI M S) (i:Nat):SeenI (Jq M (.int .i64 (i:Int)) (.bool true)) (i::S):=fun j=>by
 by_cases hj:j=i
 ·subst hj
  rw[Zd,if_pos (List.mem_cons_self ..)]
 ·rw[Qz (fun e=>by injection e with _ e;omega),h j]
  by_cases hs:j∈S
  ·rw[if_pos hs,if_pos (List.mem_cons_of_mem _ hs)]
  ·rw[if_neg hs,if_neg (fun e=>by rcases List.mem_cons.1 e with e|e;exact hj e;exact hs e)]
theorem nmL_len (X:List Qi):∀(Q:List Tm.Qw) (L:List Nat),Iw X Q=some L→L.length=Q.length
 |[],L,h=>by obtain rfl:=Option.some.inj h;rfl
 | q::Q,L,h=>by
   rw[Iw] at h
   split at h
   ·cases h
   ·obtain⟨L',h1,rfl⟩:=Option.map_eq_some_iff.1 h
    rw[List.length_cons,List.length_cons,nmL_len X Q L' h1]
def K9 (r:Qi):Prop:=r.reqs.length≤1048576∧(∀ q∈r.reqs,Zu q)∧r.path.length≤4294967000
def Xf (g pw pg gb:Nat):List Q3:=[Qa pw 103 #[.pointer (some ⟨g,0,none⟩)],Qa pg 169 #[.map (some gb)]]
def RInv (X:List Qi) (Q:List Tm.Qw) (g pw pg gb sb lo:Nat) (w0:World) (k:Nat) (o b:Value) (w:World):Prop:=
 (b=.bool false∧Tm.Bh (X.map Qf) Q∧St lo w0 w [])∨
 (b=.bool true∧∃(A:Option Addr) (T:List Nat) (c:Nat) (S:List Nat) (G:Tm.Qk→Option Nat) (M MS:Lit→Option Value),o=.slice A T.length c∧k=T.length+(X.length-S.length)*2097152∧
   Hid (Lf (X.map Qf) Q S T G∧U8 M G∧SeenI MS S∧T.length≤1048576*(S.length+1))∧
   Hid (St lo w0 w (Ja 1 (.slice A T.length c) T.length (Q8 T)::Zw 9 gb S.length M::Zw 3 sb S.length MS::Xf g pw pg gb)))
theorem Wt (L M:List Nat):Q8 (L++M)=Q8 L++Q8 M:=List.map_append ..
theorem S6 (L:List Nat):∀ u∈Q8 L,u.oneCell'=true:=fun u hu=>by obtain⟨i,-,rfl⟩:=List.mem_map.1 hu;rfl
theorem natC_cons (i:Nat) (T:List Nat):Q8 (i::T)=.int .i64 (i:Int)::Q8 T:=rfl
theorem zero_b (w:World):(zeroValue 4).run prog w=.ok (.bool false) w:=by kernel_rfl
theorem reach_spec (X:List Qi) (Q:List Tm.Qw) (g mb n pw pg gb:Nat) (xv v:Value) (mp:Lit→Option Value) (F:Nat→Prop) (lo:Nat) (w0 w:World) (hF:∀ k,F k→k<lo)
 (hw:G5 w0 F g xv X mb n mp) (hx:Qx w0 F xv X) (hq:Qt w0 F v Q) (hs:∀ q∈Q,Zu q) (hX:∀ r∈X,O1 r) (hX2:X.length≤1048576) (hXr:∀ r∈X,K9 r) (hQ:Q.length≤1048576)
 (h:St lo w0 w (Zw 9 gb 0 (fun _=>none)::Xf g pw pg gb)):
 Calls prog 89 #[.pointer (some ⟨g,0,none⟩),.func (.func 30) #[] #[],v,.func (.func 90) #[] #[.pointer (some ⟨pw,0,none⟩),.pointer (some ⟨pg,0,none⟩)]] w fun e w'=>
  (e=.returned (.bool false)∧Tm.Bh (X.map Qf) Q∧St lo w0 w' [])∨
  (e=.returned (.bool true)∧∃(S:List Nat) (G:Tm.Qk→Option Nat) (M:Lit→Option Value),Lf (X.map Qf) Q S [] G∧U8 M G∧S.length≤1048576∧St lo w0 w' (Zw 9 gb S.length M::Xf g pw pg gb)):=by
 have kn:∀(v:Value) (Q:List Tm.Qw),Qt w0 F v Q→(∀ q∈Q,Zu q)→Q.length≤1048576→∀ {W:World} {Rs:List Q3},St lo w0 W Rs→Calls prog 142 #[.pointer (some ⟨g,0,none⟩),.func (.func 30) #[] #[],v] W fun e w'=>∃ A n c bb,e=.returned (.tuple #[.slice A n c,.bool bb])∧n≤1048576∧
  ((bb=false∧(∃ q∈Q,Tm.X6 (X.map Qf) q=none)∧St lo w0 w' Rs)∨(bb=true∧∃ L,n=L.length∧(∀ i,i∈L↔∃ q∈Q,Tm.X6 (X.map Qf) q=some i)∧(¬ ∃ q∈Q,Tm.X6 (X.map Qf) q=none)∧St lo w0 w' (Qh 3 1 (.slice A n c) n (Q8 L)::Rs))):=by
  intro v Q hq hs hQ W Rs hW;have hk:=Qm.under (F:=F) hW.below hF;refine(names_spec X Q g mb n xv v mp F F W (hw.keep hk) (hx.keep hk) (hq.keep hk) hs hX hX2 hQ).mono ?_;rintro e w' ⟨hb,hr⟩
  cases hn:Iw X Q with
  |none =>rw[hn] at hr;exact⟨none,0,0,false,hr,Nat.zero_le _,.inl ⟨rfl,(Sw X Q).1 hn,hW.under hb⟩⟩
  |some L =>rw[hn] at hr;obtain⟨A,c,rfl,hst⟩:=hr;have hl:=nmL_len X Q L hn;exact⟨A,L.length,c,true,rfl,by omega,.inr ⟨rfl,L,rfl,Cm X Q L hn,(fun hne=>by have:=(Sw X Q).2 hne;rw[hn] at this;cases this),hW.graft hst⟩⟩
 have k0:=kn v Q hq hs hQ h;obtain⟨N,hN⟩:∃ N,X.length=N:=⟨_,rfl⟩;have HX:=Kd6 hF hw hx hX2 hXr (And.intro hN @kn);have H:=Kd h;clear kn hF hw hx hq hs hX hX2 hXr hQ h hN;have hmm:=@run_makeMap prog;go_enter func89,ntmps89;go_wp2_with fail;refine k0.mono ?_;rintro e w1 ⟨A,n1,c,bb,rfl,hn1,h1⟩;have H1:=Kd h1;clear h1 k0;go_wp2
 go_loopg [9,10] (n1+N*2097152) (fun gk o b wr=>RInv X Q g pw pg gb w1.heap.size lo w0 gk o b wr)
 case atStart=>
  rcases H1.out with⟨rfl,⟨q,hq,e⟩,hst⟩|⟨rfl,L,rfl,e1,e2,hst⟩
  ·exact .inl ⟨rfl,⟨q,e,.inl hq⟩,(St.drop hst).under (b1 _ _)⟩
  ·have hst:=hst.toQu.mpMade 3
   refine .inr ⟨rfl,A,L,c,[],fun _=>none,fun _=>none,fun _=>none,rfl,?_,Kd ⟨Lf.start e1 e2,fun _=>rfl,fun _=>rfl,by simpa using hn1⟩,Kd (hst.pick [1,2,0,3,4] (by decide) (by simp[Xf]))⟩;rw[HX.out.2.2.2.2.2.1];rfl
 case round=>
  rcases hrel with⟨rfl,hm,hst⟩|⟨rfl,A,T,c,S,G,M,MS,rfl,hk,hp,hst⟩
  ·have HM:=Kd2 hm hst
   clear hm hst;go_wp2;go_ret;exact .inl ⟨rfl,HM.out.1,HM.out.2⟩
  ·obtain ⟨hR,hG,hS,hT⟩:=hp.out
   have hst:=hst.out
   cases T with
   |nil =>have HM:=Kd3 hR hG hst;have hl:=hR.len;have hx2:=HX.out.2.2.2.1;clear hR hG hS hT hst hp hk;go_wp2;go_ret;exact .inr ⟨rfl,S,G,M,HM.out.1,HM.out.2.1,Nat.le_trans hl hx2,HM.out.2.2.pick [1,3,4] (by decide) (by simp[Xf])⟩
   | cons i T=>
     rw[natC_cons,List.length_cons] at hst;rw[List.length_cons] at hT hk;obtain⟨b,off,rfl,hb,-,hc⟩:=hst.qu_cell (Nat.succ_pos _);have c0:=hc 0 _ rfl;rw[Nat.add_zero] at c0;obtain⟨rr,hr,-⟩:=(hR.nmT i (List.mem_cons_self ..)).there;have hr':=hr;rw[List.getElem?_map] at hr;obtain⟨r,hxr,rfl⟩:=Option.map_eq_some_iff.1 hr;clear hr;have hr:=hxr;clear hxr;have hiN:=(List.getElem?_eq_some_iff.1 hr).1;have hq:=hst.qu_form;obtain⟨-,-,-,hcm⟩:=hq;obtain⟨B,hB,z1,z2⟩:=Ow 54 3 underlying54 (by decide) (fun w=>Tryz.sizeOf3 w) b off T.length c;have s1:=hst.qu_pop (A:=B) hB (ys:=Q8 T) rfl rfl;have hi64:(-9223372036854775808:Int)≤(i:Int)∧(i:Int)≤9223372036854775807 :=(by have:=HX.out.2.2.2.1;omega);have s2:=s1.pick [2,0,1,3,4] (by decide) (by simp[Xf]);have l1:=s2.mp.look Tg underlying237 (zero_b wr) (Uj i hi64);rw[hS i] at l1;have i0:(0:Int)<(T.length:Int)+1:=by omega
     by_cases hi:i∈S
     ·rw[if_pos hi] at l1
      have HM:=Kd6 (hR.skip hi) hG hS hT s1 hk;clear hB hR hG hS hT hst hp hk s1 s2 hc hr hr' hiN hi hi64;go_wp2
      go_roundg (T.length+(X.length-S.length)*2097152)
      case measure=>have:=HM.out.2.2.2.2.2;omega
      case rel=>exact .inr ⟨rfl,_,T,_,S,G,M,MS,rfl,rfl,Kd ⟨HM.out.1,HM.out.2.1,HM.out.2.2.1,by have:=HM.out.2.2.2.1;omega⟩,Kd HM.out.2.2.2.2.1⟩
     ·rw [if_neg hi] at l1
      have hSl:=hR.len;obtain⟨hF,hw,hx,hX2,hXr,hN,kn⟩:=HX.out;obtain⟨W2,u1,s3⟩:=s2.mput 237 Tg underlying237 (by unfold maxLen;omega) (Uj i hi64) (.bool true);have kp:=Qm.under (F:=F) s3.below hF;have g0:=(hw.keep kp).c0;obtain⟨Ax,cx,exv,-,-,hrd,hrq⟩:=id (hx.keep kp);rw[exv] at g0;obtain⟨b2,off2,rfl,hb2,ra⟩:=Vo hrd hr;have c4:=ra.c4;obtain⟨r1,r2,r3⟩:=hXr r (List.mem_of_getElem? hr);have hxq:∀ r∈X,Qt w0 F r.rv r.reqs :=(by obtain⟨_,_,_,_,_,_,h⟩:=hx;exact h);have k1:=kn r.rv r.reqs (hxq r (List.mem_of_getElem? hr)) r2 r1 s3;have q0:(0:Int)≤(i:Int):=Int.natCast_nonneg _;have q1:(i:Int)<(X.length:Int):=Int.ofNat_lt.2 hiN;have HM:=Kd9 hR hG hS hT hk hr hr' hi hiN;clear hB hR hG hS hT hst hp hk s1 s2 hc hr hr' hi hi64 kp hrd hrq hF hw hx hX2 hXr hN kn hxq s3 r1 r2 r3 ra hiN hSl;go_wp2_with fail;refine k1.mono ?_;rintro e w3 ⟨A3,n3,c3,bb,rfl,hn3,h3⟩;clear k1;have S3:=Kd h3;clear h3 u1 z1 z2 l1;obtain⟨gk0,hgk⟩:∃ x,x=gk:=⟨_,rfl⟩
      cases bb with
      | false=>
        go_wp2
        go_roundg 0
        case measure=>have:=HM.out.2.2.2.2.1;omega
        case rel=>
         rcases S3.out with⟨-,hm,hst⟩|⟨h,-⟩
         ·exact .inl ⟨rfl,HM.out.1.miss HM.out.2.2.2.2.2.2.1 hm,hst.drop⟩
         ·cases h
      | true=>
        obtain⟨L,rfl,e1,e2,hst⟩:∃ L,n3=L.length∧(∀ i,i∈L↔∃ q∈r.reqs,Tm.X6 (X.map Qf) q=some i)∧(¬ ∃ q∈r.reqs,Tm.X6 (X.map Qf) q=none)∧St lo w0 w3 (Qh 3 1 (.slice A3 n3 c3) n3 (Q8 L)::Zw 3 w1.heap.size (S.length+1) (Jq MS (.int .i64 (i:Int)) (.bool true))::Ja 1 (.slice B T.length (c-1)) T.length (Q8 T)::Zw 9 gb S.length M::Xf g pw pg gb):=by
         rcases S3.out with⟨h,-⟩|⟨-,h⟩
         ·cases h
         ·exact h
        clear S3;obtain⟨hF,hw,hx,hX2,hXr,hN,kn⟩:=HX.out;obtain⟨hR,hG,hS,hT,hk,hr,hr',hi,hiN⟩:=HM.out;have kp:=Qm.under (F:=F) hst.below hF;have hSl:=(hR.visit hi hr' e1 e2).len;have hSm:S.length+1≤X.length:=hSl;have s4:=hst.pick [3,0,1,2,4,5] (by decide) (by simp[Xf]);have p1:=(s4.pick [4] (by decide) (by simp[Xf])).blk.cell 0;have p2:=(s4.pick [5] (by decide) (by simp[Xf])).blk.cell 0;have kc:=Il X g pw pg gb S.length i xv (.slice A3 L.length c3) F lo w0 w3 _ M G r hr hX2 (hXr r (List.mem_of_getElem? hr)).2.2 (hx.keep kp) (hw.keep kp).c0 p1 p2 s4 hG (by unfold maxLen;omega);have HL:=Kd3 e1 e2 hSm;clear hF hw hx hX2 hXr hN kn hR hG hS hT hk hr hr' hi hiN kp hSl hSm s4 hst p1 p2 e1 e2;go_wp2_with fail;refine kc.mono ?_;rintro e w4 ⟨rfl,M',hG',h4⟩;obtain⟨A4,c4',e4,-,-,hrd⟩:=(h4.pick [1] (by decide) (by simp[Xf])).natsOf rfl;obtain⟨rfl,-,rfl⟩:=Value.slice.inj e4;have S4:=Kd (h4.pick [3,0,2,4,5] (by decide) (by simp[Xf]));have q1:T.length+L.length≤maxLen :=(by have:=HM.out.2.2.2.1;have:=HX.out.2.2.2.1;have:=HL.out.2.2;unfold maxLen;omega);have q2:(T.length+L.length)*8≤140737488355328 :=(by have:=HM.out.2.2.2.1;have:=HX.out.2.2.2.1;have:=HL.out.2.2;omega);have hyl:(Q8 L).length=L.length*1 :=(by rw[Jn,Nat.mul_one]);have HG:=Kd hG';have HRD:=Kd hrd;clear kc h4 hG' hrd e4;go_wp2_with (at_builtin;go_must (refine Jw 54 S4.out underlying54 Wg rfl HRD.out hyl (by decide) (S6 L) q1 q2 rfl _ _ rfl rfl rfl ?_);intro A5 c5 w5 h5);have S5:=Kd h5;clear h5;go_wp2
        go_roundg (T.length+L.length+(X.length-(S.length+1))*2097152)
        case measure=>have:=HM.out.2.2.2.2.1;have:=HL.out.2.2;omega
        case rel=>
         obtain⟨hF,hw,hx,hX2,hXr,hN,kn⟩:=HX.out;obtain⟨hR,hG,hS,hT,hk,hr,hr',hi,hiN⟩:=HM.out;refine .inr ⟨rfl,A5,T++L,c5,i::S,_,M',_,by rw[List.length_append],by rw[List.length_append];rfl,Kd ⟨hR.visit hi hr' HL.out.1 HL.out.2.1,HG.out,hS.put i,?_⟩,Kd ?_⟩
         ·rw[List.length_append,List.length_cons]
          omega
         ·rw[List.length_append,Wt]
          exact S5.out.pick [0,1,2,3,4] (by decide) (by simp[Xf])
structure Mo (G:Tm.Qk→Option Nat) (left:Lit→Bool) (q:List Nat):Prop where
 nodup:q.Nodup
 all:∀ p k,G p=some k→left (.string p)=true∨k∈q
 old:∀ k∈q,∃ p,G p=some k∧left (.string p)=false
theorem Mo.start {G:Tm.Qk→Option Nat} {M:Lit→Option Value} (h:U8 M G):Mo G (fun kl=>(M kl).isSome) [] where
 nodup:=List.nodup_nil
 all p k hk:=by left;show (M (.string p)).isSome=true;rw[h p,hk];rfl
 old k hk:=by cases hk
theorem Mo.step {G:Tm.Qk→Option Nat} (hG:∀ p p' k,G p=some k→G p'=some k→p=p') {left:Lit→Bool} {q:List Nat} (h:Mo G left q) {x:Tm.Qk} {k:Nat} (hl:left (.string x)=true) (hx:G x=some k):Mo G (fun z=>left z&&!z.sameKey (.string x)) (q++[k]) where
 nodup:=List.nodup_append.2 ⟨h.nodup,by simp,fun a ha b hb e=>by
  rw[List.mem_singleton.1 hb] at e;subst e;obtain⟨p,h1,h2⟩:=h.old a ha;rw[hG p x a h1 hx,hl] at h2
  cases h2⟩
 all p j hj:=by
  by_cases hp:p=x
  ·subst hp
   rw[hx] at hj;obtain rfl:=Option.some.inj hj;exact .inr (List.mem_append.2 (.inr (List.mem_singleton.2 rfl)))
  ·rcases h.all p j hj with h1|h1
   ·left
    show (left (.string p)&&!(p==x))=true;rw[h1,beq_eq_false_iff_ne.2 hp];rfl
   ·exact .inr (List.mem_append.2 (.inl h1))
 old j hj:=by
  rcases List.mem_append.1 hj with hj|hj
  ·obtain⟨p,h1,h2⟩:=h.old j hj
   refine⟨p,h1,?_⟩;show (left (.string p)&&!(p==x))=false;rw[h2];rfl
  ·obtain rfl:=List.mem_singleton.1 hj
   refine⟨x,hx,?_⟩;show (left (.string x)&&!(x==x))=false;simp
theorem sort_nat (q:List Nat) (hn:q.Nodup):∃ L:List Nat,((q.map fun k:Nat=>(k:Int)).mergeSort fun x y=>decide (x≤y))=L.map (fun k:Nat=>(k:Int))∧L.Perm q∧L.Pairwise fun a b=>a<b:=by
 obtain⟨l,hl⟩:∃ l,((q.map fun k:Nat=>(k:Int)).mergeSort fun x y=>decide (x≤y))=l:=⟨_,rfl⟩;have hp:l.Perm (q.map fun k:Nat=>(k:Int)):=by rw[←hl];exact List.mergeSort_perm _ _
 have hs:=List.pairwise_mergeSort (le:=fun x y:Int=>decide (x≤y)) (fun a b c h1 h2=>by simp at *;omega) (fun a b=>by simp;omega) (q.map fun k:Nat=>(k:Int));rw[hl] at hs ⊢;have hc:∀ x∈l,((x.toNat:Nat):Int)=x:=fun x hx=>by obtain⟨k,-,rfl⟩:=List.mem_map.1 (hp.mem_iff.1 hx);simp
 have e1:l=(l.map Int.toNat).map (fun k:Nat=>(k:Int)):=by
  rw[List.map_map]
  conv=>lhs;rw[←List.map_id l]
  exact List.map_congr_left fun x hx=>(hc x hx).symm
 have e2:(l.map Int.toNat).Perm q:=by
  have:=hp.map Int.toNat
  rw[List.map_map] at this
  have e:q.map (Int.toNat ∘ fun k:Nat=>(k:Int))=q:=by
   conv=>rhs;rw[←List.map_id q]
   exact List.map_congr_left fun x hx=>by simp
  rw[e] at this;exact this
 refine⟨l.map Int.toNat,e1,e2,?_⟩;have hnd:(l.map Int.toNat).Nodup:=e2.nodup_iff.2 hn;have h2:(l.map Int.toNat).Pairwise fun a b=>a≤b:=by rw[List.pairwise_map];refine hs.imp fun {a b} h=>?_;simp at h;omega
 exact(h2.and hnd).imp fun {a b} h=>by have:=h.1;have:=h.2;omega
theorem B8 (L:List Nat):(L.map fun k:Nat=>(k:Int)).map (Value.int .i64)=Q8 L:=by unfold Q8;rw[List.map_map];rfl
theorem choose_spec (X:List Qi) (Q:List Tm.Qw) (g mb n:Nat) (xv v:Value) (mp:Lit→Option Value) (F:Nat→Prop) (w:World)
 (hw:G5 w F g xv X mb n mp) (hx:Qx w F xv X) (hq:Qt w F v Q) (hs:∀ q∈Q,Zu q) (hX:∀ r∈X,O1 r) (hX2:X.length≤1048576) (hXr:∀ r∈X,K9 r) (hQ:Q.length≤1048576):
 Calls prog 52 #[.pointer (some ⟨g,0,none⟩),.func (.func 30) #[] #[],v] w fun e w'=>
  (e=.returned (.tuple #[.slice none 0 0,.int .i64 6])∧Tm.Bh (X.map Qf) Q∧St w.heap.size w w' [])∨
  (∃(A:Option Addr) (c:Nat) (L:List Nat),e=.returned (.tuple #[.slice A L.length c,.int .i64 0])∧¬ Tm.Bh (X.map Qf) Q∧Tm.Ub (X.map Qf) Q L∧L.length≤1048576∧St w.heap.size w w' [Qh 3 1 (.slice A L.length c) L.length (Q8 L)]):=by
 obtain⟨W1,hW1⟩:∃ W1,w.alloc (.cells #[.pointer (some ⟨g,0,none⟩)] 103)=W1:=⟨_,rfl⟩;have y1:=(St.nil w).alloc 103 #[.pointer (some ⟨g,0,none⟩)];rw[hW1] at y1;obtain⟨W2,hW2⟩:∃ W2,W1.alloc (.map #[] 0)=W2:=⟨_,rfl⟩;have y2:=y1.mpMade 9;rw[hW2] at y2;obtain⟨W3,hW3⟩:∃ W3,W2.alloc (.cells #[.map (some W1.heap.size)] 169)=W3:=⟨_,rfl⟩;have y3:=y2.alloc 169 #[.map (some W1.heap.size)];rw[hW3] at y3;have kr:=reach_spec X Q g mb n w.heap.size W2.heap.size W1.heap.size xv v mp _ w.heap.size w W3 (fun k hk=>hk.2) hw.ltR hx.ltR hq.ltR hs hX hX2 hXr hQ (y3.pk [1,2,0]);have p0:=(y3.pk [2]).blk.cell 0;clear hw hx hq hs hX hXr hQ y1 y2 y3;have hmm:=@run_makeMap prog;go_enter func52,ntmps52;go_wp2_with fail;refine kr.mono ?_;rintro e w4 (⟨rfl,hm,h4⟩|⟨rfl,S,G,M,hR,hG,hl,h4⟩)
 ·have H4:=Kd2 hm h4
  clear hm h4 kr hW1 hW2 hW3;go_wp2;go_ret2;exact .inl ⟨rfl,H4.out.1,H4.out.2⟩
 ·obtain⟨gb,hgb⟩:∃ gb,W1.heap.size=gb:=⟨_,rfl⟩
  obtain⟨pg,hpg⟩:∃ pg,W2.heap.size=pg:=⟨_,rfl⟩;rw[hgb,hpg] at h4 ⊢;have c1:=(h4.pick [2] (by decide) (by simp[Xf])).blk.cell 0;obtain⟨w5,r,Js,hcn,m5,s5⟩:=h4.mrange 169 J8 underlying169;have S5:=Kd s5;have HR:=Kd3 hR hG hl;have CS:=Kd (Mo.start hG);clear hR hG h4 s5 kr hW1 hW2 hW3 hgb hpg hcn hl p0;go_wp2
  go_loopw [9] (fun v wr=>∃(left:Lit→Bool) (Js:Nat) (q:List Nat),Hid (Mo G left q)∧Hid (St w.heap.size w wr (rgR 9 gb r S.length M left Js::Qh 3 1 v q.length (Q8 q)::Xf g w.heap.size pg gb))) (fun _ wr=>wr.rangeLeft gb r)
  case atStart=>exact⟨_,Js,[],CS,Kd ((S5.out.new_own (Below.refl _ w5) ⟨rfl,.inl ⟨rfl,rfl⟩⟩).swap)⟩
  case round=>
   obtain⟨left,Js,q,hcame,hst⟩:=hrel;obtain⟨A1,c1,rfl,-,-⟩:=Q4 hst.out.tail.own;have hql:q.length≤X.length:=B0 _ _ hcame.out.nodup fun k hk=>by obtain⟨p,hp,-⟩:=hcame.out.old k hk;obtain⟨hS,-⟩:=HR.out.1.low p k hp;obtain⟨r,hr,-⟩:=(HR.out.1.nmS k hS).there;have:=(List.getElem?_eq_some_iff.1 hr).1;rw[List.length_map] at this;exact this
   rcases hst.out.mnext (fun x:List UInt8=>Value.string ⟨x.toArray⟩) J8 invS 0 with⟨hl,m1⟩|⟨x,u,kl,W1,cnt',hkey,hlk,hMk,m1,m2,hlt,s1⟩
   ·obtain⟨L,eL,hp,hs⟩:=sort_nat q hcame.out.nodup
    have hst2:=hst.out.tail;rw[←B8] at hst2;have ks:=hst2.sortI (by rw[List.length_map]) (by omega);rw[eL,B8] at ks
    have hc:=HR.out.1.chosen hs (fun k=>by
     rw[hp.mem_iff];constructor
     ·intro hk
      obtain⟨p,h1,-⟩:=hcame.out.old k hk;exact⟨p,h1⟩
     ·rintro⟨p,h1⟩
      rcases hcame.out.all p k h1 with h2|h2
      ·rw[hl] at h2
       cases h2
      ·exact h2)
    have hLl:=hp.length_eq;rw[←hLl] at ks hql ⊢;have HC:=Kd3 hc HR.out.1.hit hql;clear hcame hst hst2 hl hp hs eL hc hLl hql;go_wp2_with fail;refine ks.mono ?_;rintro e w6 ⟨rfl,h6⟩;have H6:=Kd (h6.pick [0] (by decide) (by simp[Xf]));clear h6 ks;go_wp2;go_ret2;exact .inr ⟨_,_,L,rfl,HC.out.2.1,HC.out.1,Nat.le_trans HC.out.2.2 hX2,H6.out⟩
   ·obtain⟨rfl,-⟩:=Tj hkey
    rw[HR.out.2.1 x] at hMk;obtain⟨k,hGk,rfl⟩:=Option.map_eq_some_iff.1 hMk
    have hc2:=hcame.out.step (fun p p' k h1 h2=>by
     obtain⟨-,r,hr,e⟩:=HR.out.1.low p k h1;obtain⟨-,r',hr',e'⟩:=HR.out.1.low p' k h2;rw[hr] at hr';obtain rfl:=Option.some.inj hr'
     rw[←e,e']) hlk hGk
    have S1:=Kd s1.swap;have HC:=Kd4 hc2 hlt hst.out.left_eq s1.left_eq;have q1:q.length+1≤maxLen :=(by unfold maxLen;omega);have q2:(q.length+1)*8≤140737488355328 :=(by omega);clear hcame hst hc2 hkey hlk hMk hGk s1 hlt hql;go_wp2_with (at_builtin;go_must (refine Vr 54 S1.out underlying54 Wg rfl rfl _ _ rfl rfl rfl rfl q1 q2 ?_);intro v2 w8 h9);have H9:=Kd h9;clear h9;go_wp2
    go_roundw
    case rel=>exact⟨_,cnt',q++[k],Kd HC.out.1,Kd (by rw[List.length_append,Wt];exact H9.out.swap)⟩
    case measure=>rw[HC.out.2.2.1,H9.out.swap.left_eq];exact HC.out.2.1
end Go.Proofs.YtiefajiebebgoaaGreatDoor
