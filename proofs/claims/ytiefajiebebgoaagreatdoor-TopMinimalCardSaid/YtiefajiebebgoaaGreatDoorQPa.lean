/- Lemmas and contracts on what the walks need, several small texts in one. Conditions: as each theorem states. -/
import Derived.WalkKit
import Derived.WalkSpells
import Derived.WalkLawsBesides
import Derived.Lib.Hide
import Derived.RegionTactic
import Derived.Deep.Draws
import Derived.Deep.QuietTactic
import Derived.BigQuiet
import Derived.Deep.LoopGhost
import Derived.Deep.DeepFit
import Derived.Deep.DeepCutAuto
import Derived.Maps.AppendAt
import Derived.Deep.RegionHeld3
import Derived.ProofKit
import Derived.Test.YtiefajiebebgoaaGreatDoorProg
import Derived.Shelf.Strings.Split
import Derived.Shelf.Strings.Search3
import Derived.Shelf.Strings.LastIndexAll
import Derived.Shelf.Strings.Prefix
import Derived.Shelf.Small.Strs
import Derived.Shelf.SlicesQ.Equal
import Derived.Ground.SlgqProg
import Derived.Ground.NamesProg
import Derived.Shelf.SlGeneric
import Derived.Shelf.SlicesE.DeleteFunc
import Derived.Ground.SlgfProg
import Derived.Shelf.SlicesE.Compact
import Derived.Ground.SlgnProg
open Go.Proofs.Tryz
namespace Go.Proofs.YtiefajiebebgoaaGreatDoor
set_option linter.unusedVariables false
open Go.RowKit
structure U9 (S:Nat→Prop) (w w':World):Prop where
 os:w'.os=w.os
 tape:w'.tape=w.tape
 output:w'.output=w.output
 size:w.heap.size≤w'.heap.size
 block:∀ k,k<w.heap.size→¬ S k→w'.heap[k]?=w.heap[k]?
theorem U9.refl (S:Nat→Prop) (w:World):U9 S w w:=⟨rfl,rfl,rfl,Nat.le_refl _,fun _ _ _=>rfl⟩
theorem U9.trans {S:Nat→Prop} {a b c:World} (h:U9 S a b) (k:U9 S b c):U9 S a c:=
 ⟨k.os.trans h.os,k.tape.trans h.tape,k.output.trans h.output,Nat.le_trans h.size k.size,fun i hi hs=>(k.block i (Nat.lt_of_lt_of_le hi h.size) hs).trans (h.block i hi hs)⟩
theorem U9.mono {S T:Nat→Prop} {a b:World} (h:U9 S a b) (hT:∀ i,i<a.heap.size→S i→T i):U9 T a b:=
 ⟨h.os,h.tape,h.output,h.size,fun i hi ht=>h.block i hi (fun hs=>ht (hT i hi hs))⟩
theorem U9.drewN {S:Nat→Prop} {a w:World} (h:U9 S a w) (n:Nat):U9 S a (w.drewN n):=⟨h.os,h.tape,h.output,h.size,h.block⟩
theorem U9.setCell {S:Nat→Prop} {a w:World} (h:U9 S a w) {p:Addr} (hp:p.block<a.heap.size→S p.block) (u:Value):U9 S a (w.setCell p u):=
 ⟨h.os,h.tape,h.output,by have:=h.size;simpa [World.setCell] using this,fun k hk hs=>(Below.heap_setCell w p u k (fun e=>hs (by subst e;exact hp hk))).trans (h.block k hk hs)⟩
theorem Jp (w:World) (r i:Nat) (u:Value):U9 (fun k=>k=r) w (w.setCell ⟨r,i,none⟩ u):=U9.setCell (S:=fun k=>k=r) (U9.refl _ w) (fun _=>rfl) u
theorem U9.of_below {w w':World} (h:Below w.heap.size w w') (S:Nat→Prop):U9 S w w':=⟨h.os,h.tape,h.output,h.size,fun k hk _=>h.block k hk⟩
theorem U9.below {S:Nat→Prop} {w w':World} (h:U9 S w w') {B:Nat} (hB:B≤w.heap.size) (hS:∀ i,i<B→¬ S i):Below B w w':=
 ⟨h.os,h.tape,h.output,h.size,fun k hk=>h.block k (by omega) (hS k hk)⟩
theorem U9.owns {S:Nat→Prop} {w w':World} (h:U9 S w w') {base:Nat} {e:TypeId} {size:Nat} {v:Value} {n:Nat} {xs:List Value} (ho:w.ownsRow base e size v n xs)
 (hv:∀ k,v.ownBlock=some k→¬ S k):w'.ownsRow base e size v n xs:=by
 refine⟨ho.1,?_⟩;have hlt:=ho.lt;rcases ho.2 with h2|⟨g,cap,cur,rfl,hg,hh,r⟩
 ·exact .inl h2
 ·exact .inr ⟨g,cap,cur,rfl,hg,(h.block g (hlt g rfl).2 (hv g rfl)).trans hh,r⟩
theorem owns_base {w:World} {base base':Nat} {e:TypeId} {size:Nat} {v:Value} {n:Nat} {xs:List Value} (ho:w.ownsRow base e size v n xs) (hb:∀ k,v.ownBlock=some k→base'≤k):w.ownsRow base' e size v n xs:=by
 refine⟨ho.1,?_⟩;rcases ho.2 with h2|⟨g,cap,cur,rfl,hg,r⟩
 ·exact .inl h2
 ·exact .inr ⟨g,cap,cur,rfl,hb g rfl,r⟩
theorem Wi {w w':World} (h:Below w.heap.size w w') {p:Addr} {v:Value} (hc:w.cell? p=some v):w'.cell? p=some v:=
 (h.cell (World.block_lt_of_cell? w p hc)).trans hc
def Uc (w:World) (g:Nat) (t:TypeId) (cs:Array Value):Prop:=w.heap[g]?=some (.cells cs t (0,0))
section
variable {w w':World} {g:Nat} {t:TypeId} {cs:Array Value}
theorem Uc.lt (h:Uc w g t cs):g<w.heap.size:=by
 rcases Nat.lt_or_ge g w.heap.size with hlt|hge
 ·exact hlt
 ·unfold Uc at h;rw[Array.getElem?_eq_none hge] at h;cases h
theorem Uc.cell (h:Uc w g t cs) (i:Nat):w.cell? ⟨g,i,none⟩=cs[i]?:=cell_of_row w g i cs t (0,0) h
theorem Uc.frozen (h:Uc w g t cs) (i:Nat):w.frozen? ⟨g,i,none⟩=false:=by unfold Uc at h;simp[World.frozen?,h]
theorem Uc.new (w:World) (t:TypeId) (cs:Array Value):Uc (w.alloc (.cells cs t)) w.heap.size t cs:=heap_alloc_new w _
theorem Uc.set_ (h:Uc w g t cs) (i:Nat) (u:Value):Uc (w.setCell ⟨g,i,none⟩ u) g t (cs.setIfInBounds i u):=by unfold Uc at h ⊢;simp[World.setCell,Array.getElem?_modify,h]
theorem Uc.mod {S:Nat→Prop} (h:Uc w g t cs) (hm:U9 S w w') (hs:¬ S g):Uc w' g t cs:=(hm.block g h.lt hs).trans h
theorem Uc.below (h:Uc w g t cs) (hb:Below w.heap.size w w'):Uc w' g t cs:=(hb.block g h.lt).trans h
end
theorem Q4 {w:World} {base:Nat} {e:TypeId} {size:Nat} {v:Value} {n:Nat} {xs:List Value} (h:w.ownsRow base e size v n xs):∃ A c,v=.slice A n c∧n≤c∧c≤maxLen:=by
 rcases h.2 with⟨rfl,rfl⟩|⟨g,cap,cur,rfl,_,_,h1,h2,_⟩
 ·exact⟨none,0,rfl,Nat.le_refl _,by simp[maxLen]⟩
 ·exact⟨_,cap,rfl,h1,h2⟩
theorem one_new (w:World) (u:Value) (e:TypeId):(w.alloc (.cells #[u] e)).cell? ⟨w.heap.size,0,none⟩=some u:=by simp[World.cell?_alloc_mark w #[u] e (0,0) 0]
def strs (l:List (List UInt8)):List Value:=l.map fun s=>.string ⟨s.toArray⟩
theorem Dx (a b:List UInt8):(⟨a.toArray⟩:ByteArray)++⟨b.toArray⟩=⟨(a++b).toArray⟩:=by apply ByteArray.ext;simp
theorem Zf (a:List UInt8):(⟨a.toArray⟩:ByteArray).size=a.length:=by simp[ByteArray.size]
structure Q3 where
 P:World→(Nat→Prop)→Prop
 lt:∀ {w F},P w F→∀ k,F k→k<w.heap.size
 mod:∀ {w w' F G},P w F→U9 G w w'→(∀ k,F k→¬ G k)→P w' F
def Zz (w:World):List Q3→(Nat→Prop)→Prop
 |[],_=>True
 |R::Rs,U=>∃ F V,R.P w F∧Zz w Rs V∧(∀ k,F k→U k∧¬ V k)∧∀ k,V k→U k
theorem Zz.mono {w:World}:∀ {Rs:List Q3} {U V:Nat→Prop},Zz w Rs U→(∀ k,U k→V k)→Zz w Rs V
 |[],_,_,_,_=>trivial
 |R::Rs,U,V,⟨F,W,h1,h2,h3,h4⟩,h=>⟨F,W,h1,h2,fun k hk=>⟨h k (h3 k hk).1,(h3 k hk).2⟩,fun k hk=>h k (h4 k hk)⟩
theorem Zz.lt {w:World}:∀ {Rs:List Q3} {U:Nat→Prop},Zz w Rs U→Zz w Rs (fun k=>U k∧k<w.heap.size)
 |[],_,_=>trivial
 |R::Rs,U,⟨F,W,h1,h2,h3,h4⟩=>⟨F,fun k=>W k∧k<w.heap.size,h1,Zz.lt h2,fun k hk=>⟨⟨(h3 k hk).1,R.lt h1 k hk⟩,fun hw=>(h3 k hk).2 hw.1⟩,fun k hk=>⟨h4 k hk.1,hk.2⟩⟩
theorem Zz.mod {w w':World} {G:Nat→Prop} (hm:U9 G w w'):∀ {Rs:List Q3} {U:Nat→Prop},Zz w Rs U→(∀ k,U k→¬ G k)→Zz w' Rs U
 |[],_,_,_=>trivial
 |R::Rs,U,⟨F,W,h1,h2,h3,h4⟩,h=>⟨F,W,R.mod h1 hm (fun k hk=>h k (h3 k hk).1),Zz.mod hm h2 (fun k hk=>h k (h4 k hk)),h3,h4⟩
theorem Zz.swap {w:World} {R S:Q3} {Rs:List Q3} {U:Nat→Prop} (h:Zz w (R::S::Rs) U):Zz w (S::R::Rs) U:=by
 obtain⟨F,V,h1,⟨G,W,g1,g2,g3,g4⟩,h3,h4⟩:=h
 exact⟨G,fun k=>F k∨W k,g1,⟨F,W,h1,g2,fun k hk=>⟨.inl hk,fun hw=>(h3 k hk).2 (g4 k hw)⟩,fun k hk=>.inr hk⟩,
  fun k hk=>⟨h4 k (g3 k hk).1,fun hf=>by rcases hf with hf|hf;exact(h3 k hf).2 (g3 k hk).1;exact(g3 k hk).2 hf⟩,
  fun k hk=>by rcases hk with hk|hk;exact(h3 k hk).1;exact h4 k (g4 k hk)⟩
theorem Zz.tail {w:World} {R:Q3} {Rs:List Q3} {U:Nat→Prop} (h:Zz w (R::Rs) U):Zz w Rs U:=by obtain⟨F,V,h1,h2,h3,h4⟩:=h;exact h2.mono h4
theorem Zz.cons {w:World} {R:Q3} {Rs Rs':List Q3} {U:Nat→Prop} (h:Zz w (R::Rs) U) (hr:∀ V,Zz w Rs V→Zz w Rs' V):Zz w (R::Rs') U:=by obtain⟨F,V,h1,h2,h3,h4⟩:=h;exact⟨F,V,h1,hr V h2,h3,h4⟩
theorem Zz.front {w:World}:∀(i:Nat) {Rs:List Q3} {U:Nat→Prop} (hi:i<Rs.length),Zz w Rs U→Zz w (Rs[i]::Rs.eraseIdx i) U
 |0,R::Rs,_,_,h=>h
 |i+1,R::Rs,U,hi,h=>(h.cons (Rs':=Rs[i]'(by simpa using hi)::Rs.eraseIdx i) (fun V hv=>Zz.front i (by simpa using hi) hv)).swap
def noR:Q3 where
 P _ _:=False
 lt h:=h.elim
 mod h:=h.elim
theorem Zz.each {w:World}:∀ {Rs:List Q3} {U:Nat→Prop},Zz w Rs U→∃ f:Nat→Nat→Prop,(∀ i,i<Rs.length→(Rs.getD i noR).P w (f i)∧∀ k,f i k→U k)∧∀ i j,i<Rs.length→j<Rs.length→i≠j→∀ k,f i k→¬ f j k
 |[],_,_=>⟨fun _ _=>False,fun i hi=>absurd hi (Nat.not_lt_zero _),fun i _ hi=>absurd hi (Nat.not_lt_zero _)⟩
 | R::Rs,U,⟨F,V,h1,h2,h3,h4⟩=>by
   obtain⟨f,f1,f2⟩:=Zz.each h2;refine⟨fun i=>match i with|0=>F|i+1=>f i,fun i hi=>?_,fun i j hi hj hne=>?_⟩
   ·cases i with
    |zero=>exact⟨h1,fun k hk=>(h3 k hk).1⟩
    |succ i=>exact⟨(f1 i (by simpa using hi)).1,fun k hk=>h4 k ((f1 i (by simpa using hi)).2 k hk)⟩
   ·cases i with
    | zero=>
      cases j with
      |zero=>exact absurd rfl hne
      |succ j=>exact fun k hk hg=>(h3 k hk).2 ((f1 j (by simpa using hj)).2 k hg)
    | succ i=>
      cases j with
      |zero=>exact fun k hk hg=>(h3 k hg).2 ((f1 i (by simpa using hi)).2 k hk)
      |succ j=>exact f2 i j (by simpa using hi) (by simpa using hj) (fun e=>hne (by rw[e]))
theorem Zz.of {w:World}:∀ {Rs:List Q3} {U:Nat→Prop} (f:Nat→Nat→Prop),(∀ i,i<Rs.length→(Rs.getD i noR).P w (f i)∧∀ k,f i k→U k)→(∀ i j,i<Rs.length→j<Rs.length→i≠j→∀ k,f i k→¬ f j k)→Zz w Rs U
 |[],_,_,_,_=>trivial
 |R::Rs,U,f,f1,f2=>by refine⟨f 0,fun k=>∃ i,i<Rs.length∧f (i+1) k,(f1 0 (by simp)).1,Zz.of (fun i=>f (i+1)) (fun i hi=>⟨(f1 (i+1) (by simpa using hi)).1,fun k hk=>⟨i,hi,hk⟩⟩) (fun i j hi hj hne=>f2 (i+1) (j+1) (by simpa using hi) (by simpa using hj) (by omega)),fun k hk=>⟨(f1 0 (by simp)).2 k hk,fun⟨i,hi,hg⟩=>f2 0 (i+1) (by simp) (by simpa using hi) (by omega) k hk hg⟩,fun k ⟨i,hi,hk⟩=>(f1 (i+1) (by simpa using hi)).2 k hk⟩
theorem Zz.pick {w:World} {Rs:List Q3} {U:Nat→Prop} (h:Zz w Rs U) (is:List Nat) (hn:is.Nodup) (hb:∀ i∈is,i<Rs.length):Zz w (is.map (fun i=>Rs.getD i noR)) U:=by
 obtain⟨f,f1,f2⟩:=h.each;refine Zz.of (fun j=>f (is.getD j 0)) (fun j hj=>?_) (fun i j hi hj hne=>?_)
 ·have hj':j<is.length:=by simpa using hj
  have:=f1 (is.getD j 0) (hb _ (by simp[hj']));simpa [hj',List.getD] using this
 ·have hi':i<is.length:=by simpa using hi
  have hj':j<is.length:=by simpa using hj
  refine f2 _ _ (hb _ (by simp[hi'])) (hb _ (by simp[hj'])) (fun e=>hne ?_);simp[hi',hj'] at e;exact(List.getElem_inj hn).1 e
structure St (lo:Nat) (w0 w:World) (Rs:List Q3):Prop where
 below:Below lo w0 w
 base:lo≤w0.heap.size
 held:Zz w Rs (fun k=>lo≤k)
section
variable {lo:Nat} {w0 w w':World} {R S R' S':Q3} {Rs:List Q3}
theorem St.nil (w:World):St w.heap.size w w []:=⟨Below.refl _ w,Nat.le_refl _,trivial⟩
theorem St.size (h:St lo w0 w Rs):lo≤w.heap.size:=Nat.le_trans h.base h.below.size
theorem St.front (i:Nat) (hi:i<Rs.length) (h:St lo w0 w Rs):St lo w0 w (Rs[i]::Rs.eraseIdx i):=⟨h.below,h.base,h.held.front i hi⟩
theorem St.pick (is:List Nat) (hn:is.Nodup) (hb:∀ i∈is,i<Rs.length) (h:St lo w0 w Rs):St lo w0 w (is.map (fun i=>Rs.getD i noR)):=⟨h.below,h.base,h.held.pick is hn hb⟩
theorem St.swap (h:St lo w0 w (R::S::Rs)):St lo w0 w (S::R::Rs):=⟨h.below,h.base,h.held.swap⟩
theorem St.tail (h:St lo w0 w (R::Rs)):St lo w0 w Rs:=⟨h.below,h.base,h.held.tail⟩
theorem St.rot (h:St lo w0 w (R::Rs)):St lo w0 w (Rs++[R]):=by
 suffices H:∀(Rs:List Q3) (U:Nat→Prop),Zz w (R::Rs) U→Zz w (Rs++[R]) U from⟨h.below,h.base,H _ _ h.held⟩
 intro Rs
 induction Rs with
 |nil=>intro U h;exact h
 |cons S Rs ih=>intro U h;exact h.swap.cons (fun V hv=>ih V hv)
theorem St.open (h:St lo w0 w (R::Rs)):∃ F,R.P w F∧(∀ k,F k→lo≤k)∧
 ∀ {w' F'} (R':Q3),U9 F w w'→R'.P w' F'→(∀ k,F' k→F k∨w.heap.size≤k)→St lo w0 w' (R'::Rs):=by
 obtain⟨hb,h0,F,V,h1,h2,h3,h4⟩:=h;have hs:=Nat.le_trans h0 hb.size;refine⟨F,h1,fun k hk=>(h3 k hk).1,fun {w' F'} R' hm hR hF=>⟨hb.trans (hm.below hs (fun i hi hf=>by have:=(h3 i hf).1;omega)),h0,F',fun k=>V k∧k<w.heap.size,hR,(h2.lt).mod hm (fun k hk hf=>(h3 k hf).2 hk.1),fun k hk=>?_,fun k hk=>h4 k hk.1⟩⟩;rcases hF k hk with e|e
 ·exact⟨(h3 k e).1,fun hv=>(h3 k e).2 hv.1⟩
 ·exact⟨by omega,fun hv=>by omega⟩
theorem St.open2 (h:St lo w0 w (R::S::Rs)):∃ F G,R.P w F∧S.P w G∧(∀ k,F k→lo≤k)∧(∀ k,G k→lo≤k)∧(∀ k,F k→¬ G k)∧
 ∀ {w' F' G'} (R' S':Q3),U9 (fun k=>F k∨G k) w w'→R'.P w' F'→S'.P w' G'→(∀ k,F' k→F k∨w.heap.size≤k)→(∀ k,G' k→G k∨w.heap.size≤k)→(∀ k,F' k→¬ G' k)→St lo w0 w' (R'::S'::Rs):=by
 obtain⟨hb,h0,F,V,h1,⟨G,W,g1,g2,g3,g4⟩,h3,h4⟩:=h;have hs:=Nat.le_trans h0 hb.size;have hG:∀ k,G k→lo≤k:=fun k hk=>h4 k (g3 k hk).1;refine⟨F,G,h1,g1,fun k hk=>(h3 k hk).1,hG,fun k hf hg=>(h3 k hf).2 (g3 k hg).1,fun {w' F' G'} R' S' hm hR hS hF hGG hd=>⟨hb.trans (hm.below hs (fun i hi hf=>by rcases hf with hf|hf;have:=(h3 i hf).1;omega;have:=hG i hf;omega)),h0,F',fun k=>G' k∨(W k∧k<w.heap.size),hR,⟨G',fun k=>W k∧k<w.heap.size,hS,(g2.lt).mod hm (fun k hk hf=>by rcases hf with hf|hf;exact(h3 k hf).2 (g4 k hk.1);exact(g3 k hf).2 hk.1),fun k hk=>⟨.inl hk,fun hw=>?_⟩,fun k hk=>.inr hk⟩,fun k hk=>⟨?_,fun hw=>?_⟩,fun k hk=>?_⟩⟩
 ·rcases hGG k hk with e|e
  ·exact(g3 k e).2 hw.1
  ·omega
 ·rcases hF k hk with e|e
  ·exact(h3 k e).1
  ·show lo≤k;omega
 ·rcases hw with hw|hw
  ·exact hd k hk hw
  ·rcases hF k hk with e|e
   ·exact(h3 k e).2 (g4 k hw.1)
   ·omega
 ·rcases hk with hk|hk
  ·rcases hGG k hk with e|e
   ·exact hG k e
   ·show lo≤k;omega
  ·exact h4 k (g4 k hk.1)
theorem St.turn (h:St lo w0 w (R::Rs)) (hi:∀ F,R.P w F→R'.P w F):St lo w0 w (R'::Rs):=by obtain⟨hb,h0,F,V,h1,h2⟩:=h;exact⟨hb,h0,F,V,hi F h1,h2⟩
theorem St.under (h:St lo w0 w Rs) (hb:Below w.heap.size w w'):St lo w0 w' Rs:=
 ⟨h.below.trans (hb.mono h.size),h.base,(h.held.lt.mod (U9.of_below hb (fun _=>False)) (fun _ _ h=>h)).mono (fun k hk=>hk.1)⟩
theorem St.drew (h:St lo w0 w Rs):St lo w0 w.drew Rs:=h.under (Below.refl _ w).drew
theorem St.drewN (h:St lo w0 w Rs) (n:Nat):St lo w0 (w.drewN n) Rs:=h.under (((U9.refl (fun _=>False) w).drewN n).below (Nat.le_refl _) (fun _ _ h=>h))
theorem St.new {F:Nat→Prop} (h:St lo w0 w Rs) (hb:Below w.heap.size w w') (hR:R.P w' F) (hF:∀ k,F k→w.heap.size≤k):St lo w0 w' (R::Rs):=by have hs:=h.size;refine⟨h.below.trans (hb.mono hs),h.base,F,fun k=>lo≤k∧k<w.heap.size,hR,h.held.lt.mod (U9.of_below hb (fun _=>False)) (fun _ _ h=>h),fun k hk=>?_,fun k hk=>hk.1⟩;have:=hF k hk;exact⟨by omega,fun hv=>by omega⟩
end
def Qa (g:Nat) (t:TypeId) (cs:Array Value):Q3 where
 P w F:=Uc w g t cs∧F=(fun k=>k=g)
 lt h k hk:=by obtain⟨hb,rfl⟩:=h;subst hk;exact hb.lt
 mod h hm hG:=by obtain⟨hb,rfl⟩:=h;exact⟨hb.mod hm (hG _ rfl),rfl⟩
def Qh (e:TypeId) (size:Nat) (v:Value) (n:Nat) (xs:List Value):Q3 where
 P w F:=w.ownsRow 0 e size v n xs∧(∀ k,v.ownBlock=some k→F k)∧∀ k,F k→k<w.heap.size
 lt h:=h.2.2
 mod h hm hG:=⟨hm.owns h.1 (fun k hk=>hG k (h.2.1 k hk)),h.2.1,fun k hk=>Nat.lt_of_lt_of_le (h.2.2 k hk) hm.size⟩
section
variable {lo:Nat} {w0 w w':World} {Rs:List Q3} {g:Nat} {t e:TypeId} {cs:Array Value} {v:Value} {n size:Nat} {xs:List Value} {A:Option Addr}
theorem St.blk (h:St lo w0 w (Qa g t cs::Rs)):Uc w g t cs:=by obtain⟨_,_,F,V,h1,_⟩:=h;exact h1.1
theorem St.own (h:St lo w0 w (Qh e size v n xs::Rs)):w.ownsRow 0 e size v n xs:=by obtain⟨_,_,F,V,h1,_⟩:=h;exact h1.1
theorem St.alloc (h:St lo w0 w Rs) (t:TypeId) (cs:Array Value):St lo w0 (w.alloc (.cells cs t)) (Qa w.heap.size t cs::Rs):=
 h.new ((Below.refl _ w).alloc (Nat.le_refl _) _) ⟨Uc.new w t cs,rfl⟩ (fun k hk=>by subst hk;exact Nat.le_refl _)
theorem St.alloc0 (h:St lo w0 w Rs) (o:Obj):St lo w0 (w.alloc o) Rs:=h.under ((Below.refl _ w).alloc (Nat.le_refl _) _)
theorem St.set_ (h:St lo w0 w (Qa g t cs::Rs)) (i:Nat) (u:Value):St lo w0 (w.setCell ⟨g,i,none⟩ u) (Qa g t (cs.setIfInBounds i u)::Rs):=by obtain⟨F,h1,h2,h3⟩:=h.open;obtain⟨hb,rfl⟩:=h1;exact h3 (F':=fun k=>k=g) _ (Jp w g i u) ⟨hb.set_ i u,rfl⟩ (fun k hk=>.inl hk)
theorem St.new_own (h:St lo w0 w Rs) (hb:Below w.heap.size w w') (ho:w'.ownsRow w.heap.size e size v n xs):St lo w0 w' (Qh e size v n xs::Rs):=
 h.new (F:=fun k=>v.ownBlock=some k) hb ⟨owns_base ho (fun _ _=>Nat.zero_le _),fun k hk=>hk,fun k hk=>(ho.lt k hk).2⟩ (fun k hk=>(ho.lt k hk).1)
theorem St.shift {v':Value} {n':Nat} {xs':List Value} (h:St lo w0 w (Qh e size v n xs::Rs)) (ho:w'.ownsRow 0 e size v' n' xs') (hg:w.grownBy w' v.ownBlock) (hat:v'.ownBlock=v.ownBlock∨v'.ownBlock=some w.heap.size):
 St lo w0 w' (Qh e size v' n' xs'::Rs):=by
 obtain⟨F,h1,h2,h3⟩:=h.open;have hm:U9 F w w':=⟨hg.os,hg.tape,hg.output,hg.size,fun k hk hn=>hg.block k hk (fun e=>hn (h1.2.1 k e.symm))⟩;refine h3 (F':=fun k=>v'.ownBlock=some k) (Qh e size v' n' xs') hm ⟨ho,fun k hk=>hk,fun k hk=>(ho.lt k hk).2⟩ (fun k hk=>?_);rcases hat with e|e
 ·left;rw[e] at hk;exact h1.2.1 k hk
 ·right;rw[e] at hk;injection hk with hk;omega
theorem W9 {P:Program} {ops:Array Oper} {rest:List Oper} {o:Oper} {a:Act} {Q:Exit→Act→World→Prop} (t:TypeId) {z:Value} {bytes:Nat}
 (h:St lo w0 w (Qh e size v n xs::Rs)) (ht:P.underlying t=some (.slice e)) (hi:(P.info? e).map (fun i=>(i.zero,i.size,i.bytes))=some (some z,size,bytes)) (hzs:z.cells.size=size) (hsz:0<size)
 (hgd:o.guard=none) (s x:Operand) (ho:o.op=.call { callee:=.builtin .append,args:=#[s,x],argTypes:=#[t,t] })
 (hs:a.eval s=v) (ad:Addr) (m c:Nat) (news:List Value) (hx:a.eval x=.slice (some ad) m c) (hl:news.length=m*size) (hnews:∀ j u,news[j]?=some u→w.cell? (ad.add j)=some u) (h1:∀ u∈news,u.oneCell'=true)
 (h63:n+m≤maxLen) (hbytes:(n+m)*bytes≤140737488355328)
 (hk:∀ v' w',St lo w0 w' (Qh e size v' (n+m) (xs++news)::Rs)→wpList P ops Q rest (a.put o.dst v') w'):wpList P ops Q (o::rest) a w:=by
 obtain⟨i,hi',i1,i2,i3⟩:=info_parts hi;exact wpList_append_own_at w hgd s x t ho 0 e i z size bytes ht hi' i1 i2 i3 hzs hsz v n xs hs h.own ad m c news hx hl hnews h1 h63 hbytes (Nat.zero_le _) (fun v' w' r1 r2 _ r4=>hk v' w' (h.shift r1 r2 r4))
theorem Vr {P:Program} {ops:Array Oper} {rest:List Oper} {o:Oper} {a:Act} {Q:Exit→Act→World→Prop} (t:TypeId) {z:Value} {bytes:Nat} {w:World} {u:Value} {te:TypeId}
 (h:St lo w0 w (Qh e 1 v n xs::Rs)) (ht:P.underlying t=some (.slice e)) (hi:(P.info? e).map (fun i=>(i.zero,i.size,i.bytes))=some (some z,1,bytes)) (hzs:z.cells.size=1)
 (hgd:o.guard=none) (s x:Operand) (ho:o.op=.call { callee:=.builtin .append,args:=#[s,x],argTypes:=#[t,t] })
 (hs:a.eval s=v) (hx:a.eval x=.slice (some ⟨w.heap.size,0,none⟩) 1 1) (hu:u.oneCell'=true) (h63:n+1≤maxLen) (hbytes:(n+1)*bytes≤140737488355328)
 (hk:∀ v' w',St lo w0 w' (Qh e 1 v' (n+1) (xs++[u])::Rs)→wpList P ops Q rest (a.put o.dst v') w'):wpList P ops Q (o::rest) a (w.alloc (.cells #[u] te)):=by
 refine W9 t (h.alloc0 _) ht hi hzs (by decide) hgd s x ho hs ⟨w.heap.size,0,none⟩ 1 1 [u] hx rfl ?_ ?_ h63 hbytes hk
 ·intro j y hj
  match j,hj with
  |0,hj=>simp at hj;subst hj;simp[Addr.add]
 ·intro y hy;simp at hy;subst hy;exact hu
end
def Zm (Ps:List Q3):Q3 where
 P w F:=Zz w Ps F∧∀ k,F k→k<w.heap.size
 lt h:=h.2
 mod h hm hG:=⟨h.1.mod hm hG,fun k hk=>Nat.lt_of_lt_of_le (h.2 k hk) hm.size⟩
theorem Zz.append {w:World}:∀ {Ps Rs:List Q3} {F V U:Nat→Prop},Zz w Ps F→Zz w Rs V→(∀ k,F k→U k∧¬ V k)→(∀ k,V k→U k)→Zz w (Ps++Rs) U
 |[],Rs,F,V,U,_,h2,_,h4=>h2.mono h4
 | P :: Ps,Rs,F,V,U,⟨G,W,g1,g2,g3,g4⟩,h2,h3,h4=>
   ⟨G,fun k=>W k∨V k,g1,g2.append h2 (fun k hk=>⟨.inl hk,(h3 k (g4 k hk)).2⟩) (fun k hk=>.inr hk),fun k hk=>⟨(h3 k (g3 k hk).1).1,fun hw=>by rcases hw with hw|hw;exact(g3 k hk).2 hw;exact(h3 k (g3 k hk).1).2 hw⟩,
     fun k hk=>by rcases hk with hk|hk;exact(h3 k (g4 k hk)).1;exact h4 k hk⟩
theorem Zz.parts {w:World}:∀ {Ps Rs:List Q3} {U:Nat→Prop},Zz w (Ps++Rs) U→∃ F V,Zz w Ps F∧Zz w Rs V∧(∀ k,F k→U k∧¬ V k)∧∀ k,V k→U k
 |[],Rs,U,h=>⟨fun _=>False,U,trivial,h,fun k hk=>hk.elim,fun k hk=>hk⟩
 | P::Ps,Rs,U,⟨G,W,g1,g2,g3,g4⟩=>by
   obtain⟨F,V,h1,h2,h3,h4⟩:=Zz.parts g2
   exact⟨fun k=>G k∨F k,V,⟨G,F,g1,h1,fun k hk=>⟨.inl hk,fun hf=>(g3 k hk).2 (h3 k hf).1⟩,fun k hk=>.inr hk⟩,h2,
    fun k hk=>by rcases hk with hk|hk;exact⟨(g3 k hk).1,fun hv=>(g3 k hk).2 (h4 k hv)⟩;exact⟨g4 k (h3 k hk).1,(h3 k hk).2⟩,fun k hk=>g4 k (h4 k hk)⟩
section
variable {lo:Nat} {w0 w w':World} {Ps Rs:List Q3} {R:Q3}
theorem St.ungroup (h:St lo w0 w (Zm Ps::Rs)):St lo w0 w (Ps++Rs):=by obtain⟨hb,h0,F,V,h1,h2,h3,h4⟩:=h;exact⟨hb,h0,h1.1.append h2 h3 h4⟩
theorem St.group (h:St lo w0 w (Ps++Rs)):St lo w0 w (Zm Ps::Rs):=by obtain⟨hb,h0,hh⟩:=h;obtain⟨F,V,h1,h2,h3,h4⟩:=hh.parts;exact⟨hb,h0,fun k=>F k∧k<w.heap.size,V,⟨h1.lt,fun k hk=>hk.2⟩,h2,fun k hk=>h3 k hk.1,h4⟩
end
theorem pu:(∀(a:Act) (d:Tmp) (v:Value),a.put (some d) v={ a with tmps:=a.tmps.setIfInBounds d v })∧(∀(a:Act) (v:Value),a.put none v=a)∧(∀(l:List Value) (i:Nat) (v:Value),l.toArray.setIfInBounds i v=(l.set i v).toArray)∧
 (∀(l:List Value) (u v:Value),(u::l).set 0 v=v::l)∧(∀(l:List Value) (n:Nat) (u v:Value),(u::l).set (n+1) v=u::l.set n v):=⟨fun _ _ _=>rfl,fun _ _=>rfl,fun _ _ _=>by simp,fun _ _ _=>rfl,fun _ _ _ _=>rfl⟩
theorem St.pk {lo:Nat} {w0 w:World} {Rs:List Q3} (h:St lo w0 w Rs) (is:List Nat) (hn:is.Nodup:=by decide) (hb:∀ i∈is,i<Rs.length:=by simp):St lo w0 w (is.map (fun i=>Rs.getD i noR)):=h.pick is hn hb
section
variable {P:Program} {ops:Array Oper} {Q:Exit→Act→World→Prop} {S:World→Prop} {fuel:Nat} {listed:Array Bool} {a:Act} {w:World} {v:Value} {f:Op} {t:TypeId} {s:String} {e:Array Edge} {g:Option (Nat×Bool)}
theorem tk {a':Act} (i d:Nat) (hS:S w) (h:wpAnyH P .any ops Q S fuel (listed.setIfInBounds i true) a' w) (hi:ops[i]?=some ⟨some d,f,t,s,e,g⟩:=by rfl) (hs:Region.noSelect ops=true:=by kernel_rfl) (hf:Region.free .any ops listed i=true:=by kernel_rfl)
 (hr:(Region.ready .any ops listed).contains i=true:=by kernel_rfl) (hQ:∀ c a w,Q (.panic c) (a.put (some d) v) w→Q (.panic c) a w:=by exact fun _ _ _ h=>h)
 (hy:YieldsIf P ops S ⟨some d,f,t,s,e,g⟩ v a:=by refine Or.inl ⟨by rfl,?_⟩;intro w hSw;(try dsimp only at hSw);go_simp;all_goals with_reducible rfl) (ha:a.put (some d) v=a':=by conv=>{ lhs;simp only[pu] };try with_reducible rfl):wpAnyH P .any ops Q S (fuel+1) listed a w:=
 wpAnyH_take hi hs hf hr hQ hy hS (ha▸h)
theorem tu {a':Act} (i d:Nat) (hS:S w) (h:wpAnyH P .any ops Q S fuel (listed.setIfInBounds i true) a' w) (hi:ops[i]?=some ⟨some d,f,t,s,e,g⟩:=by rfl) (hs:Region.noSelect ops=true:=by kernel_rfl) (hf:Region.free .any ops listed i=true:=by kernel_rfl)
 (hr:(Region.ready .any ops listed).contains i=true:=by kernel_rfl) (hQ:∀ c a w,Q (.panic c) (a.put (some d) undef) w→Q (.panic c) a w:=by exact fun _ _ _ h=>h) (hy:YieldsIf P ops S ⟨some d,f,t,s,e,g⟩ undef a:=by exact Or.inr ⟨by rfl,rfl⟩) (ha:a.put (some d) undef=a':=by conv=>{ lhs;simp only[pu] };try with_reducible rfl):wpAnyH P .any ops Q S (fuel+1) listed a w:=
 wpAnyH_take hi hs hf hr hQ hy hS (ha▸h)
theorem an {i:Nat} (d:Nat) (h:∀ K':Act→World→Prop,Shut (∀ a w,S w→(S w→wpAnyH P .any ops Q S fuel (listed.setIfInBounds i true) a w)→K' a w)→if Region.wanted ⟨some d,f,t,s,e,g⟩ (yielded ops a.tmps)=true then Oper.wp P ⟨some d,f,t,s,e,g⟩ a w K' Q else K' (a.put (some d) undef) w)
 (hi:ops[i]?=some ⟨some d,f,t,s,e,g⟩:=by rfl):AllReadyH P .any ops Q S fuel listed a w [i]:=AllReadyH.cons hi h AllReadyH.nil
theorem az {i:Nat} (h:∀ K':Act→World→Prop,Shut (∀ a w,S w→(S w→wpAnyH P .any ops Q S fuel (listed.setIfInBounds i true) a w)→K' a w)→if Region.wanted ⟨none,f,t,s,e,g⟩ (yielded ops a.tmps)=true then Oper.wp P ⟨none,f,t,s,e,g⟩ a w K' Q else K' (a.put none undef) w)
 (hi:ops[i]?=some ⟨none,f,t,s,e,g⟩:=by rfl):AllReadyH P .any ops Q S fuel listed a w [i]:=AllReadyH.cons hi h AllReadyH.nil
theorem ad {i:Nat} {rs:List Nat} (d:Nat) (h:∀ K':Act→World→Prop,Shut (∀ a w,S w→(S w→wpAnyH P .any ops Q S fuel (listed.setIfInBounds i true) a w)→K' a w)→if Region.wanted ⟨some d,f,t,s,e,g⟩ (yielded ops a.tmps)=true then Oper.wp P ⟨some d,f,t,s,e,g⟩ a w K' Q else K' (a.put (some d) undef) w)
 (hn:AllReadyH P .any ops Q S fuel listed a w rs) (hi:ops[i]?=some ⟨some d,f,t,s,e,g⟩:=by rfl):AllReadyH P .any ops Q S fuel listed a w (i::rs):=AllReadyH.cons hi h hn
theorem dn (h:Q .normal a w) (fuel:Nat) (hr:Region.ready .any ops listed=[]:=by kernel_rfl):wpAnyH P .any ops Q S fuel listed a w:=wpAnyH_done hr h fuel
theorem Zk (rs:List Nat) (h:AllReadyH P .any ops Q S fuel listed a w rs) (hr:Region.ready .any ops listed=rs:=by kernel_rfl) (hne:rs≠[]:=by simp):wpAnyH P .any ops Q S (fuel+1) listed a w:=wpAnyH_ready hr hne h
end
end Go.Proofs.YtiefajiebebgoaaGreatDoor
namespace Go.Proofs.YtiefajiebebgoaaGreatDoor.Tm
set_option linter.unusedVariables false
abbrev Sp:=Int×Int
def mem (s:List Sp) (p:Int):Bool:=s.any fun x=>decide (x.1≤p)&&decide (p<x.2)
def Jz:Int→List Sp→Prop
 |b,[]=>True
 |b,x::s=>b≤x.1∧x.1<x.2∧x.2≤1000000∧Jz (x.2+1) s
theorem Gl (p:Int):mem [] p=false:=rfl
theorem mem_cons (x:Sp) (s:List Sp) (p:Int):mem (x::s) p=((decide (x.1≤p)&&decide (p<x.2))||mem s p):=rfl
theorem Jz.low:∀ {s:List Sp} {b:Int},Jz b s→∀ p,p<b→mem s p=false
 |[],_,_,_,_=>rfl
 |x::s,b,h,p,hp=>by rw[mem_cons,Jz.low h.2.2.2 p (by have:=h.1;have:=h.2.1;omega)];have:¬ x.1≤p :=(by have:=h.1;omega);simp[this]
theorem Jz.high:∀ {s:List Sp} {b:Int},Jz b s→∀ p,1000000≤p→mem s p=false
 |[],_,_,_,_=>rfl
 |x::s,b,h,p,hp=>by rw[mem_cons,Jz.high h.2.2.2 p hp];have:¬ p<x.2 :=(by have:=h.2.2.1;omega);simp[this]
theorem Jz.uniq:∀ {s t:List Sp} {b:Int},Jz b s→Jz b t→(∀ p,mem s p=mem t p)→s=t
 |[],[],_,_,_,_=>rfl
 |[],y::t,b,_,ht,h=>by have:=h y.1;rw[mem_cons,Gl] at this;have h1:=ht.2.1;simp[h1] at this
 |x::s,[],b,hs,_,h=>by have:=h x.1;rw[mem_cons,Gl] at this;have h1:=hs.2.1;simp[h1] at this
 | x :: s,y::t,b,hs,ht,h=>by
   have hx:=hs.2.1;have hy:=ht.2.1
   have e1:x.1=y.1:=by
    rcases Int.lt_trichotomy x.1 y.1 with hl|he|hl
    ·have:=h x.1
     rw[mem_cons,mem_cons,ht.2.2.2.low x.1 (by omega)] at this;have h2:¬ y.1≤x.1 :=(by omega);simp[hx,h2] at this
    ·exact he
    ·have:=h y.1
     rw[mem_cons,mem_cons,hs.2.2.2.low y.1 (by omega)] at this;have h2:¬ x.1≤y.1 :=(by omega);simp[hy,h2] at this
   have e2:x.2=y.2:=by
    rcases Int.lt_trichotomy x.2 y.2 with hl|he|hl
    ·have:=h x.2
     rw[mem_cons,mem_cons,hs.2.2.2.low x.2 (by omega)] at this;have h2:y.1≤x.2 :=(by omega);simp[hl,h2] at this
    ·exact he
    ·have:=h y.2
     rw[mem_cons,mem_cons,ht.2.2.2.low y.2 (by omega)] at this;have h2:x.1≤y.2 :=(by omega);simp[hl,h2] at this
   have e:x=y:=Prod.ext e1 e2;subst e
   have:=Jz.uniq hs.2.2.2 ht.2.2.2 (fun p=>by
    have h3:=h p;rw[mem_cons,mem_cons] at h3
    by_cases hp:p<x.2+1
    ·rw[hs.2.2.2.low p hp,ht.2.2.2.low p hp]
    ·have h4:¬ p<x.2:=by omega
     simpa [h4] using h3)
   rw[this]
def Ga (x:Sp):Sp:=(max x.1 0,min x.2 1000000)
def Xw (s:List Sp):List Sp:=(s.map Ga).filter fun x=>decide (x.1<x.2)
theorem clips_cons (x:Sp) (s:List Sp):Xw (x::s)=if (Ga x).1<(Ga x).2 then Ga x::Xw s else Xw s:=by unfold Xw;rw[List.map_cons,List.filter_cons];simp
theorem Ep:∀(s:List Sp) (p:Int),mem (Xw s) p=(mem s p&&(decide (0≤p)&&decide (p<1000000)))
 |[],p=>rfl
 | x::s,p=>by
   have e:(decide (max x.1 0≤p)&&decide (p<min x.2 1000000))=((decide (x.1≤p)&&decide (p<x.2))&&(decide (0≤p)&&decide (p<1000000))) :=(by rw[Bool.eq_iff_iff];simp only[Bool.and_eq_true,decide_eq_true_eq];omega);rw[clips_cons,mem_cons,Bool.and_or_distrib_right,←Ep s p,←e]
   split
   ·rfl
   ·rename_i hn
    have:(decide ((Ga x).1≤p)&&decide (p<(Ga x).2))=false :=(by rw[Bool.eq_false_iff];intro h;simp only[Bool.and_eq_true,decide_eq_true_eq] at h;omega);show mem (Xw s) p=((decide ((Ga x).1≤p)&&decide (p<(Ga x).2))||mem (Xw s) p);rw[this,Bool.false_or]
def Ue (s:List Sp):Prop:=∀ x∈s,0≤x.1∧x.1<x.2∧x.2≤1000000
theorem K4 (s:List Sp):Ue (Xw s):=fun x hx=>by unfold Xw at hx;rw[List.mem_filter,List.mem_map] at hx;obtain⟨⟨y,_,rfl⟩,h⟩:=hx;simp only[decide_eq_true_eq] at h;unfold Ga at h ⊢;simp only at h ⊢;omega
def Srt (s:List Sp):Prop:=s.Pairwise fun x y=>x.1≤y.1
def join:Sp→List Sp→List Sp
 |o,[]=>[o]
 |o,x::s=>if x.1≤o.2 then join (o.1,max o.2 x.2) s else o::join x s
def Fe:List Sp→List Sp
 |[]=>[]
 |x::s=>join x s
theorem S8:∀(s:List Sp) (o:Sp) (p:Int),(∀ x∈s,o.1≤x.1∧x.1<x.2)→o.1<o.2→Srt s→mem (join o s) p=((decide (o.1≤p)&&decide (p<o.2))||mem s p)
 |[],o,p,_,_,_=>rfl
 | x::s,o,p,ho,hp,hs=>by
   have hx:=ho x (List.mem_cons_self ..);have hs2:Srt s:=(List.pairwise_cons.1 hs).2;have hxs:=(List.pairwise_cons.1 hs).1;rw[join]
   split
   ·rename_i hle
    rw[S8 s (o.1,max o.2 x.2) p (fun y hy=>ho y (List.mem_cons_of_mem _ hy)) (by show o.1<max o.2 x.2;omega) hs2,mem_cons,←Bool.or_assoc]
    congr 1
    rw[Bool.eq_iff_iff];simp only[Bool.and_eq_true,Bool.or_eq_true,decide_eq_true_eq];omega
   ·rw[mem_cons,S8 s x p (fun y hy=>⟨hxs y hy,(ho y (List.mem_cons_of_mem _ hy)).2⟩) hx.2 hs2,mem_cons]
theorem Th:∀(s:List Sp) (o:Sp) (b:Int),Srt s→Ue s→(∀ x∈s,o.1≤x.1)→b≤o.1→o.1<o.2→o.2≤1000000→Jz b (join o s)
 |[],o,b,_,_,_,hb,h1,h2=>⟨hb,h1,h2,trivial⟩
 | x::s,o,b,hs,hp,ho,hb,h1,h2=>by
   have hs2:Srt s:=(List.pairwise_cons.1 hs).2;have hxs:=(List.pairwise_cons.1 hs).1;have hx:=hp x (List.mem_cons_self ..);have hp2:Ue s:=fun y hy=>hp y (List.mem_cons_of_mem _ hy);rw[join]
   split
   ·exact Th s (o.1,max o.2 x.2) b hs2 hp2 (fun y hy=>ho y (List.mem_cons_of_mem _ hy)) hb (by show o.1<max o.2 x.2;omega) (by show max o.2 x.2≤1000000;omega)
   ·exact⟨hb,h1,h2,Th s x (o.2+1) hs2 hp2 hxs (by omega) hx.2.1 hx.2.2⟩
theorem Es {s:List Sp} (hs:Srt s) (hp:Ue s):Jz 0 (Fe s):=by
 match s,hs,hp with
 |[],_,_=>exact trivial
 |x::s,hs,hp =>have hx:=hp x (List.mem_cons_self ..);exact Th s x 0 (List.pairwise_cons.1 hs).2 (fun y hy=>hp y (List.mem_cons_of_mem _ hy)) (List.pairwise_cons.1 hs).1 hx.1 hx.2.1 hx.2.2
theorem Er {s:List Sp} (hs:Srt s) (hp:Ue s) (p:Int):mem (Fe s) p=mem s p:=by
 match s,hs,hp with
 |[],_,_=>rfl
 |x::s,hs,hp =>have hx:=hp x (List.mem_cons_self ..);rw[Fe,S8 s x p (fun y hy=>⟨(List.pairwise_cons.1 hs).1 y hy,(hp y (List.mem_cons_of_mem _ hy)).2.1⟩) hx.2.1 (List.pairwise_cons.1 hs).2,mem_cons]
def Js:List Sp→Int→Int
 |[],_=>0
 |x::s,p=>(if x.1≤p∧p<x.2 then 1 else 0)+Js s p
theorem Tu:∀(s t:List Sp) (p:Int),Js (s++t) p=Js s p+Js t p
 |[],t,p=>by show Js t p=0+Js t p;omega
 |x::s,t,p=>by show _+Js (s++t) p=_+Js s p+Js t p;rw[Tu s t p];omega
theorem cnt_can:∀ {s:List Sp} {b:Int},Jz b s→∀ p,Js s p=if mem s p=true then 1 else 0
 |[],_,_,_=>rfl
 | x :: s,b,h,p=>by
   rw[mem_cons];show _+Js s p=_;rw[cnt_can h.2.2.2 p]
   by_cases hx:x.1≤p∧p<x.2
   ·have hl:=h.2.2.2.low p (by omega)
    rw[hl];simp[hx]
   ·have:(decide (x.1≤p)&&decide (p<x.2))=false:=by
     rw[Bool.eq_false_iff];intro hh;simp only[Bool.and_eq_true,decide_eq_true_eq] at hh;exact hx hh
    rw[this,if_neg hx,Bool.false_or];omega
def Fj:List Sp→Int→Int
 |[],_=>0
 |x::s,k=>(if x.1=k then 1 else 0)-(if x.2=k then 1 else 0)+Fj s k
def upTo (s:List Sp) (p:Int):Int:=match s with
 |[]=>0
 |x::s=>(if x.1≤p then 1 else 0)-(if x.2≤p then 1 else 0)+upTo s p
theorem R0:∀(s:List Sp) (p:Int),(∀ x∈s,x.1<x.2)→upTo s p=Js s p
 |[],_,_=>rfl
 | x :: s,p,h=>by
   have hx:=h x (List.mem_cons_self ..);show _+upTo s p=_+Js s p;rw[R0 s p (fun y hy=>h y (List.mem_cons_of_mem _ hy))]
   by_cases h1:x.1≤p
   ·by_cases h2:x.2≤p
    ·rw[if_pos h1,if_pos h2,if_neg (by omega)]
     omega
    ·rw[if_pos h1,if_neg h2,if_pos (by omega)]
     omega
   ·rw[if_neg h1,if_neg (by omega:¬ x.2≤p),if_neg (by omega)]
    omega
theorem Ln:∀(s:List Sp) (a b:Int),a<b→(∀ x∈s,(x.1≤a∨b≤x.1)∧(x.2≤a∨b≤x.2))→upTo s b=upTo s a+Fj s b
 |[],_,_,_,_=>rfl
 | x :: s,a,b,hab,h=>by
   obtain⟨h1,h2⟩:=h x (List.mem_cons_self ..);show _+upTo s b=(_+upTo s a)+(_+Fj s b);rw[Ln s a b hab (fun y hy=>h y (List.mem_cons_of_mem _ hy))]
   have e1:(if x.1≤b then (1:Int) else 0)=(if x.1≤a then 1 else 0)+(if x.1=b then 1 else 0):=by
    rcases h1 with h1|h1
    ·rw[if_pos (by omega),if_pos h1,if_neg (by omega)]
     omega
    ·by_cases e:x.1=b
     ·rw[if_pos (by omega),if_neg (by omega),if_pos e]
      omega
     ·rw[if_neg (by omega),if_neg (by omega),if_neg e]
      omega
   have e2:(if x.2≤b then (1:Int) else 0)=(if x.2≤a then 1 else 0)+(if x.2=b then 1 else 0):=by
    rcases h2 with h2|h2
    ·rw[if_pos (by omega),if_pos h2,if_neg (by omega)]
     omega
    ·by_cases e:x.2=b
     ·rw[if_pos (by omega),if_neg (by omega),if_pos e]
      omega
     ·rw[if_neg (by omega),if_neg (by omega),if_neg e]
      omega
   omega
def Jj (keep:Int→Bool) (X:List Sp):List Int→List Sp
 |a::b::r=>if keep (Js X a)=true then (a,b)::Jj keep X (b::r) else Jj keep X (b::r)
 |_=>[]
def Uf (X:List Sp):List Int→Prop
 |a::b::r=>a<b∧(∀ x∈X,(x.1≤a∨b≤x.1)∧(x.2≤a∨b≤x.2))∧Uf X (b::r)
 |_=>True
theorem cnt_same:∀(X:List Sp) (a b p:Int),a≤p→p<b→(∀ x∈X,(x.1≤a∨b≤x.1)∧(x.2≤a∨b≤x.2))→Js X p=Js X a
 |[],_,_,_,_,_,_=>rfl
 |x::X,a,b,p,h1,h2,h=>by obtain⟨k1,k2⟩:=h x (List.mem_cons_self ..);show _+Js X p=_+Js X a;rw[cnt_same X a b p h1 h2 (fun y hy=>h y (List.mem_cons_of_mem _ hy))];have e:(x.1≤p∧p<x.2)↔(x.1≤a∧a<x.2) :=(by omega);simp only[e]
theorem C9 (X:List Sp):∀(r:List Int) (a:Int),Uf X (a::r)→∀ z,(a::r).getLast?=some z→a≤z
 |[],a,_,z,hz=>by simp at hz;omega
 |b::r,a,h,z,hz=>by have:=C9 X r b h.2.2 z (by simpa using hz);have:=h.1;omega
theorem Lr (keep:Int→Bool) (X:List Sp):∀(r:List Int) (a:Int),Uf X (a::r)→∀ p,p<a→mem (Jj keep X (a::r)) p=false
 |[],_,_,_,_=>rfl
 | b::r,a,h,p,hp=>by
   have ih:=Lr keep X r b h.2.2 p (by have:=h.1;omega);rw[Jj]
   split
   ·rw[mem_cons,ih]
    have:¬ a≤p :=(by omega);simp[this]
   ·exact ih
theorem Lq (keep:Int→Bool) (X:List Sp):∀(r:List Int) (a z p:Int),Uf X (a::r)→(a::r).getLast?=some z→a≤p→p<z→mem (Jj keep X (a::r)) p=keep (Js X p)
 |[],a,z,p,_,hz,h1,h2=>by simp at hz;omega
 | b :: r,a,z,p,h,hz,h1,h2=>by
   have hz2:(b::r).getLast?=some z:=by simpa using hz
   by_cases hb:p<b
   ·have hc:=cnt_same X a b p h1 hb h.2.1
    have hl:=Lr keep X r b h.2.2 p hb;rw[hc,Jj]
    split
    ·rename_i hk
     rw[mem_cons,hl,hk];simp[h1,hb]
    ·rename_i hk
     rw[hl];simpa using hk
   ·have ih:=Lq keep X r b z p h.2.2 hz2 (by omega) h2
    rw[Jj]
    split
    ·rw[mem_cons,ih]
     simp[hb]
    ·exact ih
theorem Sa (keep:Int→Bool) (X:List Sp):∀(r:List Int) (a:Int),Uf X (a::r)→∀ x∈Jj keep X (a::r),a≤x.1
 |[],_,_,x,hx=>by cases hx
 | b :: r,a,h,x,hx=>by
   have hab:=h.1;rw[Jj] at hx
   split at hx
   ·rcases List.mem_cons.1 hx with rfl|hx
    ·exact Int.le_refl _
    ·have:=Sa keep X r b h.2.2 x hx
     omega
   ·have:=Sa keep X r b h.2.2 x hx
    omega
theorem Yo (keep:Int→Bool) (X:List Sp):∀(r:List Int) (a:Int),Uf X (a::r)→Srt (Jj keep X (a::r))
 |[],_,_=>List.Pairwise.nil
 | b::r,a,h=>by
   have hab:=h.1;rw[Jj]
   split
   ·refine List.pairwise_cons.2 ⟨fun x hx=>?_,Yo keep X r b h.2.2⟩
    have:=Sa keep X r b h.2.2 x hx;show a≤x.1;omega
   ·exact Yo keep X r b h.2.2
theorem Ki (keep:Int→Bool) (X:List Sp):∀(r:List Int) (a:Int),Uf X (a::r)→0≤a→(∀ z,(a::r).getLast?=some z→z≤1000000)→Ue (Jj keep X (a::r))
 |[],_,_,_,_=>fun x hx=>by cases hx
 | b::r,a,h,h0,hz=>by
   have hab:=h.1;have hz2:∀ z,(b::r).getLast?=some z→z≤1000000:=fun z e=>hz z (by simpa using e);have ih:=Ki keep X r b h.2.2 (by omega) hz2;have hb:b≤1000000 :=(by obtain⟨z,e⟩:∃ z,(b::r).getLast?=some z:=⟨_,List.getLast?_eq_some_getLast (List.cons_ne_nil _ _)⟩;have:=C9 X r b h.2.2 z e;have:=hz2 z e;omega);rw[Jj]
   split
   ·intro x hx
    rcases List.mem_cons.1 hx with rfl|hx
    ·exact⟨h0,hab,hb⟩
    ·exact ih x hx
   ·exact ih
theorem comb_can (keep:Int→Bool) (X:List Sp) (r:List Int) (h:Uf X (0::r)) (hz:(0::r).getLast?=some 1000000):Jz 0 (Fe (Jj keep X (0::r))):=
 Es (Yo keep X r 0 h) (Ki keep X r 0 h (Int.le_refl _) (fun z e=>by rw[hz] at e;injection e with e;omega))
theorem comb_mem (keep:Int→Bool) (X:List Sp) (r:List Int) (h:Uf X (0::r)) (hz:(0::r).getLast?=some 1000000) (p:Int) (h0:0≤p) (h1:p<1000000):mem (Fe (Jj keep X (0::r))) p=keep (Js X p):=by rw[Er (Yo keep X r 0 h) (Ki keep X r 0 h (Int.le_refl _) (fun z e=>by rw[hz] at e;injection e with e;omega))];exact Lq keep X r 0 1000000 p h hz h0 h1
def ins (x:Sp):List Sp→List Sp
 |[]=>[x]
 |y::s=>if x.1<y.1 then x::y::s else y::ins x s
def Dd:List Sp→List Sp
 |[]=>[]
 |x::s=>ins x (Dd s)
theorem mem_ins (x:Sp) (p:Int):∀ s,mem (ins x s) p=mem (x::s) p
 |[]=>rfl
 | y::s=>by
   rw[ins]
   split
   ·rfl
   ·rw[mem_cons,mem_ins x p s,mem_cons,mem_cons,mem_cons,←Bool.or_assoc,←Bool.or_assoc,Bool.or_comm (decide (y.1≤p)&&decide (p<y.2))]
theorem Pj (p:Int):∀ s,mem (Dd s) p=mem s p
 |[]=>rfl
 |x::s=>by rw[Dd,mem_ins,mem_cons,Pj p s,mem_cons]
theorem Tl (x z:Sp):∀ s,z∈ins x s↔z=x∨z∈s
 |[]=>by simp[ins]
 | y :: s=>by
   rw[ins]
   split
   ·simp
   ·rw[List.mem_cons,Tl x z s,List.mem_cons]
    constructor
    ·rintro (h|h|h)
     ·exact .inr (.inl h)
     ·exact .inl h
     ·exact .inr (.inr h)
    ·rintro (h|h|h)
     ·exact .inr (.inl h)
     ·exact .inl h
     ·exact .inr (.inr h)
theorem Ti (z:Sp):∀ s,z∈Dd s↔z∈s
 |[]=>Iff.rfl
 |x::s=>by rw[Dd,Tl,Ti z s,List.mem_cons]
theorem ins_srt (x:Sp):∀ s,Srt s→Srt (ins x s)
 |[],_=>by simp[ins,Srt]
 | y::s,h=>by
   obtain⟨h1,h2⟩:=List.pairwise_cons.1 h;rw[ins]
   split
   ·rename_i hlt
    refine List.pairwise_cons.2 ⟨fun z hz=>?_,h⟩;rcases List.mem_cons.1 hz with rfl|hz
    ·exact Int.le_of_lt hlt
    ·exact Int.le_trans (Int.le_of_lt hlt) (h1 z hz)
   ·rename_i hge
    refine List.pairwise_cons.2 ⟨fun z hz=>?_,ins_srt x s h2⟩;rcases (Tl x z s).1 hz with rfl|hz
    ·exact Int.not_lt.1 hge
    ·exact h1 z hz
theorem Ev:∀ s,Srt (Dd s)
 |[]=>List.Pairwise.nil
 |x::s=>ins_srt x (Dd s) (Ev s)
def Q9 (s:List Sp):List Sp:=Fe (Dd (Xw s))
theorem T6 (s:List Sp):Ue (Dd (Xw s)):=fun x hx=>K4 s x ((Ti x _).1 hx)
theorem Wc (s:List Sp):Jz 0 (Q9 s):=Es (Ev _) (T6 s)
theorem Xx (s:List Sp) (p:Int):mem (Q9 s) p=(mem s p&&(decide (0≤p)&&decide (p<1000000))):=by unfold Q9;rw[Er (Ev _) (T6 s),Pj,Ep]
theorem Io {s:List Sp} (h:Jz 0 s):Q9 s=s:=
 Jz.uniq (Wc s) h fun p=>by
  rw[Xx]
  by_cases h0:p<0
  ·rw[h.low p h0,Bool.false_and]
  ·by_cases h1:1000000≤p
   ·rw[h.high p h1,Bool.false_and]
   ·rw[decide_eq_true (by omega:0≤p),decide_eq_true (by omega:p<1000000),Bool.and_true,Bool.and_true]
def Ic (x:Int):List Int→List Int
 |[]=>[x]
 |y::r=>if x<y then x::y::r else if x=y then y::r else y::Ic x r
def IncB (l:List Int):Prop:=l.Pairwise fun x y=>x<y
theorem Um (x z:Int):∀ r,z∈Ic x r↔z=x∨z∈r
 |[]=>by simp[Ic]
 | y :: r=>by
   rw[Ic]
   split
   ·simp
   ·split
    ·rename_i e
     subst e;simp
    ·rw[List.mem_cons,Um x z r,List.mem_cons]
     constructor
     ·rintro (h|h|h)
      ·exact .inr (.inl h)
      ·exact .inl h
      ·exact .inr (.inr h)
     ·rintro (h|h|h)
      ·exact .inr (.inl h)
      ·exact .inl h
      ·exact .inr (.inr h)
theorem Tn (x:Int):∀ r,IncB r→IncB (Ic x r)
 |[],_=>by simp[Ic,IncB]
 | y :: r,h=>by
   obtain⟨h1,h2⟩:=List.pairwise_cons.1 h;rw[Ic]
   split
   ·rename_i hlt
    refine List.pairwise_cons.2 ⟨fun z hz=>?_,h⟩;rcases List.mem_cons.1 hz with rfl|hz
    ·exact hlt
    ·exact Int.lt_trans hlt (h1 z hz)
   ·split
    ·exact h
    ·rename_i hge hne
     refine List.pairwise_cons.2 ⟨fun z hz=>?_,Tn x r h2⟩;rcases (Um x z r).1 hz with rfl|hz
     ·omega
     ·exact h1 z hz
def J4:List Sp→List Int
 |[]=>[0,1000000]
 |x::s=>Ic x.1 (Ic x.2 (J4 s))
theorem Dp:∀ s,IncB (J4 s)
 |[]=>by simp[J4,IncB]
 |x::s=>Tn _ _ (Tn _ _ (Dp s))
theorem Yw (z:Int):∀ s,z∈J4 s↔(z=0∨z=1000000)∨∃ x∈s,z=x.1∨z=x.2
 |[]=>by simp[J4]
 | x :: s=>by
   rw[J4,Um,Um,Yw z s];constructor
   ·rintro (h|h|h|⟨y,hy,h⟩)
    ·exact .inr ⟨x,List.mem_cons_self ..,.inl h⟩
    ·exact .inr ⟨x,List.mem_cons_self ..,.inr h⟩
    ·exact .inl h
    ·exact .inr ⟨y,List.mem_cons_of_mem _ hy,h⟩
   ·rintro (h|⟨y,hy,h⟩)
    ·exact .inr (.inr (.inl h))
    ·rcases List.mem_cons.1 hy with rfl|hy
     ·rcases h with h|h
      ·exact .inl h
      ·exact .inr (.inl h)
     ·exact .inr (.inr (.inr ⟨y,hy,h⟩))
theorem C8 (X:List Sp):∀(r:List Int) (a:Int),IncB (a::r)→(∀ x∈X,(x.1≤a∨x.1∈r)∧(x.2≤a∨x.2∈r))→Uf X (a::r)
 |[],_,_,_=>trivial
 | b :: r,a,h,hx=>by
   obtain⟨h1,h2⟩:=List.pairwise_cons.1 h;have hb:=(List.pairwise_cons.1 h2).1
   have key:∀ z,(z≤a∨z∈b::r)→z≤a∨b≤z:=fun z hz=>by
    rcases hz with hz|hz
    ·exact .inl hz
    ·rcases List.mem_cons.1 hz with rfl|hz
     ·exact .inr (Int.le_refl _)
     ·exact .inr (Int.le_of_lt (hb z hz))
   have key2:∀ z,(z≤a∨z∈b::r)→z≤b∨z∈r:=fun z hz=>by
    have hab:=h1 b (List.mem_cons_self ..);rcases hz with hz|hz
    ·exact .inl (by omega)
    ·rcases List.mem_cons.1 hz with rfl|hz
     ·exact .inl (Int.le_refl _)
     ·exact .inr hz
   exact⟨h1 b (List.mem_cons_self ..),fun x hxx=>⟨key _ (hx x hxx).1,key _ (hx x hxx).2⟩,C8 X r b h2 fun x hxx=>⟨key2 _ (hx x hxx).1,key2 _ (hx x hxx).2⟩⟩
theorem E2 (X:List Sp) (hp:Ue X):∃ r,J4 X=0::r∧(0::r).getLast?=some 1000000∧Uf X (0::r):=by
 have hi:=Dp X;have he:=fun z=>Yw z X;generalize J4 X=E at hi he;have h0:(0:Int)∈E:=(he 0).2 (.inl (.inl rfl));have h1:(1000000:Int)∈E:=(he 1000000).2 (.inl (.inr rfl))
 have hr:∀ z∈E,0≤z∧z≤1000000:=fun z hz=>by
  rcases (he z).1 hz with (h|h)|⟨x,hx,h⟩
  ·omega
  ·omega
  ·have:=hp x hx
   omega
 cases E with
 |nil=>cases h0
 | cons a r=>
   have ha:=(List.pairwise_cons.1 hi).1
   have ea:a=0:=by
    rcases List.mem_cons.1 h0 with h|h
    ·exact h.symm
    ·have:=ha 0 h
     have:=(hr a (List.mem_cons_self ..)).1;omega
   subst ea;refine⟨r,rfl,?_,C8 X r 0 hi fun x hx=>?_⟩
   ·obtain⟨z,hz⟩:∃ z,(0::r:List Int).getLast?=some z:=⟨_,List.getLast?_eq_some_getLast (List.cons_ne_nil _ _)⟩
    have hzm:z∈(0::r:List Int):=List.mem_of_getLast? hz;rw[hz]
    congr 1
    have hz1:=(hr z hzm).2
    have hmax:∀(l:List Int),IncB l→∀ z,l.getLast?=some z→∀ y∈l,y≤z:=by
     intro l
     induction l with
     |nil=>intro _ z hz y hy;cases hy
     | cons c l ih=>
       intro hl z hz y hy;obtain⟨g1,g2⟩:=List.pairwise_cons.1 hl
       cases l with
       |nil =>simp at hz hy;omega
       | cons d l=>
         have hz2:(d::l).getLast?=some z :=(by simpa using hz);rcases List.mem_cons.1 hy with rfl|hy
         ·have:=ih g2 z hz2 d (List.mem_cons_self ..)
          have:=g1 d (List.mem_cons_self ..);omega
         ·exact ih g2 z hz2 y hy
    have:=hmax _ hi z hz 1000000 h1;omega
   ·have h3:=(he x.1).2 (.inr ⟨x,hx,.inl rfl⟩)
    have h4:=(he x.2).2 (.inr ⟨x,hx,.inr rfl⟩);have hpx:=hp x hx;constructor
    ·rcases List.mem_cons.1 h3 with h|h
     ·exact .inl (by omega)
     ·exact .inr h
    ·rcases List.mem_cons.1 h4 with h|h
     ·exact .inl (by omega)
     ·exact .inr h
def Ij (keep:Int→Bool) (l:List (List Sp)):List Sp:=Fe (Jj keep (l.flatMap Q9) (J4 (l.flatMap Q9)))
theorem Ma:∀ {s:List Sp} {b:Int},Jz b s→0≤b→Ue s
 |[],_,_,_=>fun x hx=>by cases hx
 | y::s,b,h,hb=>fun x hx=>by
   rcases List.mem_cons.1 hx with rfl|hx
   ·have:=h.1
    exact⟨by omega,h.2.1,h.2.2.1⟩
   ·exact Ma h.2.2.2 (by have:=h.1;have:=h.2.1;omega) x hx
theorem P0 (l:List (List Sp)):Ue (l.flatMap Q9):=fun x hx=>by obtain⟨s,_,h⟩:=List.mem_flatMap.1 hx;exact Ma (Wc s) (Int.le_refl _) x h
def Gq:List (List Sp)→Int→Int
 |[],_=>0
 |s::l,p=>(if mem s p=true then 1 else 0)+Gq l p
theorem cnt_flat (p:Int) (h0:0≤p) (h1:p<1000000):∀ l:List (List Sp),Js (l.flatMap Q9) p=Gq l p
 |[]=>rfl
 |s::l=>by rw[List.flatMap_cons,Tu,cnt_flat p h0 h1 l,cnt_can (Wc s),Xx,decide_eq_true h0,decide_eq_true h1,Bool.and_true,Bool.and_true];rfl
theorem Uo (keep:Int→Bool) (l:List (List Sp)):Jz 0 (Ij keep l)∧∀ p,0≤p→p<1000000→mem (Ij keep l) p=keep (Gq l p):=by obtain⟨r,e1,e2,e3⟩:=E2 (l.flatMap Q9) (P0 l);unfold Ij;rw[e1];refine⟨comb_can keep _ r e3 e2,fun p h0 h1=>?_⟩;rw[comb_mem keep _ r e3 e2 p h0 h1,cnt_flat p h0 h1]
theorem one_of (b:Bool):(if b=true then (1:Int) else 0)=cond b 1 0:=by cases b<;>rfl
def Xd (a b:List Sp):List Sp:=Ij (fun n=>decide (n=2)) [a,b]
def Yh (a b:List Sp):List Sp:=Ij (fun n=>decide (0<n)) [a,b]
def Zc (a:List Sp):List Sp:=Ij (fun n=>decide (n=0)) [a]
theorem Xm (a b:List Sp):Jz 0 (Xd a b):=(Uo _ _).1
theorem unionS_can (a b:List Sp):Jz 0 (Yh a b):=(Uo _ _).1
theorem Bd (a:List Sp):Jz 0 (Zc a):=(Uo _ _).1
theorem Wu (a b:List Sp) (p:Int) (h0:0≤p) (h1:p<1000000):mem (Xd a b) p=(mem a p&&mem b p):=by
 unfold Xd;rw[(Uo _ _).2 p h0 h1];simp only[Gq,one_of]
 cases mem a p<;>cases mem b p<;>rfl
theorem unionS_mem (a b:List Sp) (p:Int) (h0:0≤p) (h1:p<1000000):mem (Yh a b) p=(mem a p||mem b p):=by
 unfold Yh;rw[(Uo _ _).2 p h0 h1];simp only[Gq,one_of]
 cases mem a p<;>cases mem b p<;>rfl
theorem J5 (a:List Sp) (p:Int) (h0:0≤p) (h1:p<1000000):mem (Zc a) p=!mem a p:=by
 unfold Zc;rw[(Uo _ _).2 p h0 h1];simp only[Gq,one_of]
 cases mem a p<;>rfl
theorem K6 {s:List Sp} (h:Jz 0 s):s=[]↔∀ p,0≤p→p<1000000→mem s p=false:=by
 constructor
 ·rintro rfl p _ _
  rfl
 ·intro hp
  refine Jz.uniq h (t:=[]) trivial fun p=>?_
  by_cases h0:p<0
  ·rw[h.low p h0]
   rfl
  ·by_cases h1:1000000≤p
   ·rw[h.high p h1]
    rfl
   ·rw[hp p (by omega) (by omega)]
    rfl
def Fn (a b:List Sp):Bool:=(Xd a (Zc b)).isEmpty
theorem subS_iff (a b:List Sp):Fn a b=true↔∀ p,0≤p→p<1000000→mem a p=true→mem b p=true:=by
 unfold Fn;rw[List.isEmpty_iff,K6 (Xm _ _)];constructor
 ·intro h p h0 h1 ha
  have:=h p h0 h1;rw[Wu _ _ p h0 h1,J5 _ p h0 h1,ha] at this;simpa using this
 ·intro h p h0 h1
  rw[Wu _ _ p h0 h1,J5 _ p h0 h1]
  cases ha:mem a p with
  |false=>rfl
  |true=>rw[h p h0 h1 ha];rfl
abbrev Qk:=List UInt8
structure Qu where
 path:Qk
 abs:Bool
 set:List Sp
abbrev Vs:=Qk→Option Int
def D8 (σ:Vs):Prop:=∀ x p,σ x=some p→0≤p∧p<1000000
def Zo (t:Qu) (σ:Vs):Bool:=match σ t.path with
 |none=>t.abs
 |some p=>mem t.set p
def Zv (l:List Qu) (σ:Vs):Bool:=l.all fun t=>Zo t σ
theorem Zr (t:Qu) (l:List Qu) (σ:Vs):Zv (t::l) σ=(Zo t σ&&Zv l σ):=rfl
theorem Xo (l m:List Qu) (σ:Vs):Zv (l++m) σ=(Zv l σ&&Zv m σ):=by unfold Zv;rw[List.all_append]
def Wv (t:Qu):Bool:=t.abs&&(Zc t.set).isEmpty
def Ws (t:Qu):Bool:=!t.abs&&(Q9 t.set).isEmpty
def Xg (a b:Qu):Qu:=⟨a.path,a.abs&&b.abs,Xd a.set b.set⟩
def Vi (a b:Qu):Qu:=⟨a.path,a.abs||b.abs,Yh a.set b.set⟩
theorem Un {a b:Qu} (h:a.path=b.path) {σ:Vs} (hr:D8 σ):Zo (Xg a b) σ=(Zo a σ&&Zo b σ):=by
 have e:(Xg a b).path=a.path:=rfl;unfold Zo;rw[e,←h]
 cases hs:σ a.path with
 |none=>rfl
 |some p =>obtain⟨h0,h1⟩:=hr _ _ hs;exact Wu a.set b.set p h0 h1
theorem Hu {a b:Qu} (h:a.path=b.path) {σ:Vs} (hr:D8 σ):Zo (Vi a b) σ=(Zo a σ||Zo b σ):=by
 have e:(Vi a b).path=a.path:=rfl;unfold Zo;rw[e,←h]
 cases hs:σ a.path with
 |none=>rfl
 |some p =>obtain⟨h0,h1⟩:=hr _ _ hs;exact unionS_mem a.set b.set p h0 h1
theorem hold_always {t:Qu} (h:Wv t=true) {σ:Vs} (hr:D8 σ):Zo t σ=true:=by
 unfold Wv at h;rw[Bool.and_eq_true,List.isEmpty_iff,K6 (Bd _)] at h;unfold Zo
 cases hs:σ t.path with
 |none=>exact h.1
 |some p =>obtain⟨h0,h1⟩:=hr _ _ hs;have:=h.2 p h0 h1;rw[J5 _ p h0 h1] at this;simpa using this
theorem hold_never {t:Qu} (h:Ws t=true) {σ:Vs} (hr:D8 σ):Zo t σ=false:=by
 unfold Ws at h;rw[Bool.and_eq_true,List.isEmpty_iff,K6 (Wc _)] at h;unfold Zo
 cases hs:σ t.path with
 |none=>simpa using h.1
 |some p =>obtain⟨h0,h1⟩:=hr _ _ hs;have:=h.2 p h0 h1;rw[Xx,decide_eq_true h0,decide_eq_true h1] at this;simpa using this
def Jr:Qk→Qk→Bool
 |_,[]=>false
 |[],_::_=>true
 |a::s,b::t=>if a<b then true else if a=b then Jr s t else false
def Wn (t:Qu):List Qu→List Qu
 |[]=>[Xg t t]
 |u::l=>if t.path=u.path then Xg u t::l else if Jr t.path u.path=true then Xg t t::u::l else u::Wn t l
theorem Lj (t:Qu) {σ:Vs} (hr:D8 σ):∀ l,Zv (Wn t l) σ=(Zo t σ&&Zv l σ)
 | []=>by
   rw[Wn,Zr,Un rfl hr]
   cases Zo t σ<;>rfl
 | u :: l=>by
   rw[Wn]
   split
   ·rename_i e
    rw[Zr,Un e.symm hr,Zr]
    cases Zo t σ<;>cases Zo u σ<;>rfl
   ·split
    ·rw[Zr,Un rfl hr]
     cases Zo t σ<;>rfl
    ·rw[Zr,Lj t hr l,Zr]
     cases Zo t σ<;>cases Zo u σ<;>rfl
def Zn (l:List Qu):List Qu:=l.foldl (fun a t=>Wn t a) []
theorem Ll {σ:Vs} (hr:D8 σ):∀(l a:List Qu),Zv (l.foldl (fun a t=>Wn t a) a) σ=(Zv l σ&&Zv a σ)
 |[],a=>rfl
 | t::l,a=>by
   rw[List.foldl_cons,Ll hr l,Lj t hr,Zr]
   cases Zo t σ<;>cases Zv l σ<;>rfl
theorem Rx {σ:Vs} (hr:D8 σ) (l:List Qu):Zv (Zn l) σ=Zv l σ:=by unfold Zn;rw[Ll hr];show (Zv l σ&&true)=_;rw[Bool.and_true]
def Zh (l:List Qu):Option (List Qu):=if (Zn l).any Ws=true then none else some ((Zn l).filter fun t=>!Wv t)
theorem Hi {σ:Vs} (hr:D8 σ):∀ l:List Qu,Zv (l.filter fun t=>!Wv t) σ=Zv l σ
 |[]=>rfl
 | t::l=>by
   rw[List.filter_cons]
   cases h:Wv t with
   |true =>rw[Zr,hold_always h hr];simpa using Hi hr l
   |false =>simp only[Bool.not_false,if_true];rw[Zr,Zr,Hi hr l]
theorem Gi {σ:Vs} (hr:D8 σ) {l c:List Qu} (h:Zh l=some c):Zv c σ=Zv l σ:=by
 unfold Zh at h
 split at h
 ·cases h
 ·injection h with h
  rw[←h,Hi hr,Rx hr]
theorem viol_idle {σ:Vs} (hr:D8 σ) {l:List Qu} (h:Zh l=none):Zv l σ=false:=by
 unfold Zh at h
 split at h
 ·rename_i hn
  obtain⟨t,ht,h2⟩:=List.any_eq_true.1 hn;rw[←Rx hr,Bool.eq_false_iff];intro hv;unfold Zv at hv;have:=List.all_eq_true.1 hv t ht;rw[hold_never h2 hr] at this
  cases this
 ·cases h
def Zj (l:List Qu) (path:Qk):Option (Qu×List Qu):=match Zh l with
 |none=>none
 | some c=>match c.find? (fun t=>t.path==path) with
   |none=>none
   |some t=>some (t,c.eraseP fun t=>t.path==path)
theorem Ry {σ:Vs} (path:Qk):∀(c:List Qu) (t:Qu),c.find? (fun t=>t.path==path)=some t→Zv c σ=(Zo t σ&&Zv (c.eraseP fun t=>t.path==path) σ)∧t.path=path
 |[],t,h=>by cases h
 | u :: c,t,h=>by
   rw[List.find?_cons] at h;rw[List.eraseP_cons]
   cases hu:u.path==path with
   |true =>rw[hu] at h;injection h with h;subst h;exact⟨rfl,beq_iff_eq.1 hu⟩
   | false=>
     rw[hu] at h;obtain⟨h1,h2⟩:=Ry path c t h;refine⟨?_,h2⟩;show Zv (u::c) σ=(Zo t σ&&Zv (u::c.eraseP fun t=>t.path==path) σ);rw[Zr,Zr,h1]
     cases Zo u σ<;>cases Zo t σ<;>rfl
theorem Kf {σ:Vs} (hr:D8 σ) {l r:List Qu} {t:Qu} {path:Qk} (h:Zj l path=some (t,r)):Zv l σ=(Zo t σ&&Zv r σ)∧t.path=path:=by
 unfold Zj at h
 cases hc:Zh l with
 |none=>rw[hc] at h;cases h
 | some c=>
   rw[hc] at h;dsimp only at h
   cases hf:c.find? (fun t=>t.path==path) with
   |none=>rw[hf] at h;cases h
   |some u =>rw[hf] at h;injection h with h;injection h with e1 e2;subst e1 e2;rw[←Gi hr hc];exact Ry path c u hf
def Vf (a b:List Qu) (path:Qk):Option (List Qu):=match Zj a path,Zj b path with
 |some (t,r),some (u,m)=>Zh (r++m++[Vi t u])
 |_,_=>none
theorem res_sound {σ:Vs} (hr:D8 σ) {a b c:List Qu} {path:Qk} (h:Vf a b path=some c) (hv:Zv c σ=true):Zv a σ=true∨Zv b σ=true:=by
 unfold Vf at h
 cases h1:Zj a path with
 |none=>rw[h1] at h;cases h
 | some x=>
   obtain⟨t,r⟩:=x
   cases h2:Zj b path with
   |none=>rw[h1,h2] at h;cases h
   | some y=>
     obtain⟨u,m⟩:=y;rw[h1,h2] at h;dsimp only at h;obtain⟨e1,p1⟩:=Kf hr h1;obtain⟨e2,p2⟩:=Kf hr h2;rw[Gi hr h,Xo,Xo,Zr,Hu (p1.trans p2.symm) hr] at hv;rw[e1,e2]
     revert hv
     cases Zo t σ<;>cases Zo u σ<;>cases Zv r σ<;>cases Zv m σ<;>simp
structure Qw where
 path:Qk
 set:List Sp
structure Qp where
 path:Qk
 place:Int
 reqs:List Qw
 yank:Bool
def sat (q:Qw) (σ:Vs):Prop:=∃ p,σ q.path=some p∧mem q.set p=true
structure Sol (x:List Qp) (roots:List Qw) (σ:Vs):Prop where
 inr:D8 σ
 root:∀ q∈roots,sat q σ
 rel:∀ path p,σ path=some p→∃ r∈x,r.path=path∧r.place=p∧r.yank=false∧∀ q∈r.reqs,sat q σ
def Uniq (x:List Qp):Prop:=∀ r∈x,∀ r'∈x,r.path=r'.path→r.place=r'.place→r=r'
def Hd (x:List Qp) (roots:List Qw) (l:List Qu):Prop:=∀ σ,Sol x roots σ→Zv l σ=false
def Q6 (q:Qw):Qu:=⟨q.path,true,Zc q.set⟩
def ofT (l:List Qu):List Qu:=(Zh l).getD []
def Ux (q:Qw):List Qu:=ofT [Q6 q]
def G0 (path:Qk) (place:Int) (q:Qw):List Qu:=ofT [⟨path,false,[(place,place+1)]⟩,Q6 q]
def Xc (path:Qk) (av:List Sp):List Qu:=ofT [⟨path,false,Zc av⟩]
theorem Dh {q:Qw} {σ:Vs} (hr:D8 σ) (h:sat q σ):Zo (Q6 q) σ=false:=by obtain⟨p,h1,h2⟩:=h;have e:(Q6 q).path=q.path:=rfl;unfold Zo;rw[e,h1];obtain⟨a,b⟩:=hr _ _ h1;show mem (Zc q.set) p=false;rw[J5 _ p a b,h2];rfl
theorem Rw {σ:Vs} (hr:D8 σ) {l:List Qu} (h:Zh l≠none):Zv (ofT l) σ=Zv l σ:=by
 unfold ofT
 cases hc:Zh l with
 |none=>exact absurd hc h
 |some c =>rw[Option.getD_some];exact Gi hr hc
theorem root_full (q:Qw):Zh [Q6 q]≠none:=by have e:Zn [Q6 q]=[Xg (Q6 q) (Q6 q)]:=rfl;have n:Ws (Xg (Q6 q) (Q6 q))=false:=rfl;unfold Zh;rw[e];simp[n]
theorem Li {σ:Vs} (hr:D8 σ) (q:Qw):Zv (Ux q) σ=Zo (Q6 q) σ:=by unfold Ux;rw[Rw hr (root_full q),Zr];exact Bool.and_true _
theorem root_valid {x:List Qp} {roots:List Qw} {q:Qw} (hq:q∈roots):Hd x roots (Ux q):=fun σ h=>by rw[Li h.inr,Dh h.inr (h.root q hq)]
theorem Ro {σ:Vs} (path:Qk) (place:Int):Zo ⟨path,false,[(place,place+1)]⟩ σ=true↔σ path=some place:=by
 unfold Zo
 cases hs:σ path with
 |none=>simp[]
 |some p =>simp only[];rw[mem_cons,Gl,Bool.or_false,Bool.and_eq_true,decide_eq_true_eq,decide_eq_true_eq,Option.some.injEq];show place≤p∧p<place+1↔p=place;omega
theorem Rv {σ:Vs} (hr:D8 σ) {path:Qk} {place:Int} {q:Qw} (h:Zh [⟨path,false,[(place,place+1)]⟩,Q6 q]≠none):Zv (G0 path place q) σ=(Zo ⟨path,false,[(place,place+1)]⟩ σ&&Zo (Q6 q) σ):=by unfold G0;rw[Rw hr h,Zr,Zr];show (_&&(_&&true))=_;rw[Bool.and_true]
theorem L6 {x:List Qp} {roots:List Qw} {r:Qp} {q:Qw} (hu:Uniq x) (hr:r∈x) (hq:q∈r.reqs) (h:Zh [⟨r.path,false,[(r.place,r.place+1)]⟩,Q6 q]≠none):Hd x roots (G0 r.path r.place q):=fun σ hs=>by
 rw[Rv hs.inr h]
 cases h1:Zo ⟨r.path,false,[(r.place,r.place+1)]⟩ σ with
 |false=>rfl
 |true =>obtain⟨r',m1,m2,m3,_,m4⟩:=hs.rel _ _ ((Ro _ _).1 h1);have e:=hu r hr r' m1 m2.symm m3.symm;subst e;rw[Dh hs.inr (m4 q hq)];rfl
def Avail (x:List Qp) (path:Qk) (av:List Sp):Prop:=∀ p,0≤p→p<1000000→(mem av p=true↔∃ r∈x,r.path=path∧r.place=p∧r.yank=false)
theorem D9 {σ:Vs} (hr:D8 σ) {path:Qk} {av:List Sp} (h:Zh [⟨path,false,Zc av⟩]≠none):Zv (Xc path av) σ=Zo ⟨path,false,Zc av⟩ σ:=by unfold Xc;rw[Rw hr h,Zr];exact Bool.and_true _
theorem none_valid {x:List Qp} {roots:List Qw} {path:Qk} {av:List Sp} (ha:Avail x path av) (h:Zh [⟨path,false,Zc av⟩]≠none):Hd x roots (Xc path av):=fun σ hs=>by
 rw[D9 hs.inr h];unfold Zo;show (match σ path with|none=>false|some p=>mem (Zc av) p)=false
 cases hp:σ path with
 |none=>rfl
 |some p =>obtain⟨a,b⟩:=hs.inr _ _ hp;obtain⟨r,m1,m2,m3,m4,_⟩:=hs.rel _ _ hp;show mem (Zc av) p=false;rw[J5 _ p a b,(ha p a b).2 ⟨r,m1,m2,m3,m4⟩];rfl
theorem res_valid {x:List Qp} {roots:List Qw} {a b c:List Qu} {path:Qk} (ha:Hd x roots a) (hb:Hd x roots b) (h:Vf a b path=some c):Hd x roots c:=fun σ hs=>by
 rw[Bool.eq_false_iff];intro hv;rcases res_sound hs.inr h hv with h1|h1
 ·rw[ha σ hs] at h1;cases h1
 ·rw[hb σ hs] at h1;cases h1
abbrev D7:=Nat×Qk×Int×Nat×Nat×Nat
abbrev Ol:=Qk×Int×Nat
structure Qv where
 infs:List D7
 der:List (List Qu)
 full:Bool
structure Zi where
 q:Qw
 path:Qk
 place:Int
 number:Nat
def Zl:Qv:=⟨[],[],false⟩
def add (s:Qv) (i:D7) (l:List Qu):Nat×Qv:=
 if i∈s.infs then (s.infs.idxOf i,s) else if 65536≤s.infs.length then (s.infs.length-1,{ s with full:=true }) else (s.infs.length,⟨s.infs++[i],s.der++[l],s.full⟩)
def infer (s:Qv) (n:Zi):Nat×Qv:=if n.path=[] then add s (0,[],0,n.number,0,0) (Ux n.q) else add s (1,n.path,n.place,n.number,0,0) (G0 n.path n.place n.q)
def Ql {α β:Type} (f:Nat→α→β):Nat→List α→List β
 |_,[]=>[]
 |i,a::l=>f i a::Ql f (i+1) l
def Jo (roots:List Qw) (dec:List Qp):List Zi:=Ql (fun i q=>⟨q,[],0,i⟩) 0 roots++dec.flatMap fun c=>Ql (fun i q=>⟨q,c.path,c.place,i⟩) 0 c.reqs
def done (dec:List Qp) (p:Qk):Bool:=dec.any fun c=>c.path==p
def Hk (dec:List Qp) (a:Qk×List Zi) (n:Zi):Qk×List Zi:=
 if done dec n.q.path=true∨(a.2≠[]∧Jr a.1 n.q.path=true) then a else (n.q.path,(if a.2≠[]∧Jr n.q.path a.1=true then [] else a.2)++[n])
def next (roots:List Qw) (dec:List Qp):Qk×List Zi:=(Jo roots dec).foldl (Hk dec) ([],[])
def has (s:List Sp) (p:Int):Bool:=decide (0≤p)&&(decide (p<1000000)&&mem s p)
def Yf (dec:List Qp) (c:Qp):Option Zi:=(Ql (fun i q=>(⟨q,c.path,c.place,i⟩:Zi)) 0 c.reqs).find? fun n=>(dec++[c]).any fun d=>d.path==n.q.path&&!has n.q.set d.place
def J0 (w:List Qp):Vs:=fun p=>(w.find? fun c=>c.path==p).map Qp.place
def Jf (w:List Qp) (l:List Qu):Bool:=Zv l (J0 w)&&l.all fun t=>done w t.path
def Xk (der:List (List Qu)) (w:List Qp):Option Nat:=der.findIdx? (Jf w)
def Qn (l:List Qu) (path:Qk):Bool:=l.any fun t=>t.path==path
def Zp (x:List Qp) (path:Qk):List Qp:=x.filter fun r=>r.path==path&&!r.yank
def Qy (x:List Qp) (path:Qk):List Sp:=Q9 ((Zp x path).map fun r=>(r.place,r.place+1))
def learnL (path:Qk):List Nat→Nat→Qv→Nat×Qv
 |[],a,s=>(a,s)
 | r::rs,a,s=>
   if s.full=true∨Qn (s.der.getD a []) path=false then (a,s)
   else if r=a then learnL path rs a s
   else match Vf (s.der.getD a []) (s.der.getD r []) path with
    |none=>learnL path rs a s
    |some l=>learnL path rs (add s (3,path,0,0,a,r) l).1 (add s (3,path,0,0,a,r) l).2
def Wq (x:List Qp) (path:Qk) (n0:Zi) (rs:List Nat) (s:Qv):Nat×Qv:=
 learnL path ((add (infer s n0).2 (2,path,0,0,0,0) (Xc path (Qy x path))).1::rs) (infer s n0).1 (add (infer s n0).2 (2,path,0,0,0,0) (Xc path (Qy x path))).2
abbrev Bg:=Option (List Qp×List Ol)×Nat×Qv
def J7   (x:List Qp) (rec:Qv→List Qp→Bg) (dec:List Qp) (path:Qk) (ns:List Zi) (n0:Zi):List Qp→Qv→List Nat→List Ol→Bg
 |[],s,rs,_=>(none,Wq x path n0 rs s)
 | c :: cs,s,rs,sk=>
   if s.full=true then (none,0,s)
   else match ns.find? fun n=>!has n.q.set c.place with
    |some k=>J7 x rec dec path ns n0 cs (infer s k).2 (rs++[(infer s k).1]) sk
    | none=>
      match Xk s.der (dec++[c]) with
      |some r=>if Qn (s.der.getD r []) path=false then (none,r,s) else J7 x rec dec path ns n0 cs s (rs++[r]) (sk++[(path,c.place,r)])
      | none=>match Yf dec c with
        |some n=>if Qn ((infer s n).2.der.getD (infer s n).1 []) path=false then (none,(infer s n).1,(infer s n).2) else J7 x rec dec path ns n0 cs (infer s n).2 (rs++[(infer s n).1]) (sk++[(path,c.place,(infer s n).1)])
        | none=>match rec s (dec++[c]) with
          |(some (d,t),_,s2)=>(some (d,sk++t),0,s2)
          |(none,r,s2)=>if s2.full=true then (none,0,s2) else if Qn (s2.der.getD r []) path=false then (none,r,s2) else J7 x rec dec path ns n0 cs s2 (rs++[r]) (sk++[(path,c.place,r)])
def Za (x:List Qp) (roots:List Qw):Nat→Qv→List Qp→Bg
 |0,s,_=>(none,0,s)
 | f+1,s,dec=>match (next roots dec).2 with
   |[]=>(some (dec,[]),0,s)
   |n0::_=>J7 x (Za x roots f) dec (next roots dec).1 (next roots dec).2 n0 (Zp x (next roots dec).1) s [] []
def Xa (x:List Qp) (roots:List Qw) (s:Qv):Prop:=∀ l∈s.der,Hd x roots l
theorem Xa.add {x:List Qp} {roots:List Qw} {s:Qv} (h:Xa x roots s) (i:D7) {l:List Qu} (hl:Hd x roots l):Xa x roots (add s i l).2:=by
 unfold Tm.add
 split
 ·exact h
 ·split
  ·exact h
  ·intro m hm
   rcases List.mem_append.1 hm with hm|hm
   ·exact h m hm
   ·rw[List.mem_singleton.1 hm]
    exact hl
theorem Kw (l:List (List Qu)) (a:Nat) (h:a<l.length):l.getD a []=l[a]:=by rw[List.getD_eq_getElem?_getD,List.getElem?_eq_getElem h,Option.getD_some]
theorem To (l:List (List Qu)) (a:Nat) (h:l.length≤a):l.getD a []=[]:=by rw[List.getD_eq_getElem?_getD,List.getElem?_eq_none h,Option.getD_none]
theorem Xa.get {x:List Qp} {roots:List Qw} {s:Qv} (h:Xa x roots s) {a:Nat} (ha:a<s.der.length):Hd x roots (s.der.getD a []):=by rw[Kw _ _ ha];exact h _ (List.getElem_mem ha)
theorem Xa.got {x:List Qp} {roots:List Qw} {s:Qv} (h:Xa x roots s) {a:Nat} {path:Qk} (hc:Qn (s.der.getD a []) path=true):Hd x roots (s.der.getD a []):=by
 by_cases ha:a<s.der.length
 ·exact h.get ha
 ·rw[To _ _ (Nat.le_of_not_lt ha)] at hc
  cases hc
theorem split_nil (path:Qk):Zj [] path=none:=rfl
theorem Xa.learnL {x:List Qp} {roots:List Qw} (path:Qk):∀(rs:List Nat) (a:Nat) (s:Qv),Xa x roots s→Xa x roots (learnL path rs a s).2
 |[],_,_,h=>h
 | r :: rs,a,s,h=>by
   rw[Tm.learnL]
   split
   ·exact h
   ·rename_i hn
    split
    ·exact Xa.learnL path rs a s h
    ·cases hr:Vf (s.der.getD a []) (s.der.getD r []) path with
     |none=>exact Xa.learnL path rs a s h
     | some l=>
       have ha:Qn (s.der.getD a []) path=true:=by
        cases hc:Qn (s.der.getD a []) path with
        |true=>rfl
        |false=>exact absurd (.inr hc) hn
       have v1:=h.got ha
       have v2:Hd x roots (s.der.getD r []):=by
        by_cases hlt:r<s.der.length
        ·exact h.get hlt
        ·rw[To _ _ (Nat.le_of_not_lt hlt)] at hr
         unfold Vf at hr;rw[split_nil] at hr
         cases hx:Zj (s.der.getD a []) path with
         |none =>rw[hx] at hr;exact absurd hr (by simp)
         |some y =>obtain⟨t,m⟩:=y;rw[hx] at hr;exact absurd hr (by simp)
       exact Xa.learnL path rs _ _ (h.add _ (res_valid v1 v2 hr))
end Go.Proofs.YtiefajiebebgoaaGreatDoor.Tm
namespace Go.Proofs.YtiefajiebebgoaaGreatDoor
set_option linter.unusedVariables false
open Go.RowKit
theorem bytes_cut (s:List UInt8) (a b:Nat):(⟨s.toArray⟩:ByteArray).extract a b=⟨((s.drop a).take (b-a)).toArray⟩:=by apply ByteArray.ext;simp[List.extract_eq_take_drop]
end Go.Proofs.YtiefajiebebgoaaGreatDoor
namespace Go.Proofs
open Go.Shelf
def Tryz.laysSplit_ren:Go.Shelf.Ren:=⟨fun|146=>183|221=>228|268=>264|138=>265|143=>266|195=>286|197=>287|218=>288|219=>289|260=>303|217=>304|225=>305|224=>306|267=>307|266=>312|314=>313|n=>n,fun|9=>9|31=>134|3=>3|4=>4|0=>0|105=>363|21=>21|5=>5|46=>196|119=>377|139=>380|138=>379|146=>322|51=>261|n=>n,fun|1=>0|3=>1|4=>2|n=>n⟩
theorem Tryz.laysSplit:Go.Proofs.Lays.n146 prog Tryz.laysSplit_ren:={
 mixed:=by kernel_rfl
 f138:=func265.trans (congrArg some (by kernel_rfl))
 f143:=func266.trans (congrArg some (by kernel_rfl))
 f146:=func183.trans (congrArg some (by kernel_rfl))
 f195:=func286.trans (congrArg some (by kernel_rfl))
 f197:=func287.trans (congrArg some (by kernel_rfl))
 f217:=func304.trans (congrArg some (by kernel_rfl))
 f218:=func288.trans (congrArg some (by kernel_rfl))
 f219:=func289.trans (congrArg some (by kernel_rfl))
 f221:=func228.trans (congrArg some (by kernel_rfl))
 f224:=func306.trans (congrArg some (by kernel_rfl))
 f225:=func305.trans (congrArg some (by kernel_rfl))
 f260:=func303.trans (congrArg some (by kernel_rfl))
 f266:=func312.trans (congrArg some (by kernel_rfl))
 f267:=func307.trans (congrArg some (by kernel_rfl))
 f268:=func264.trans (congrArg some (by kernel_rfl))
 f314:=func313.trans (congrArg some (by kernel_rfl))
 t0:=underlying0
 a0:=Tryz.isAgg0
 z0:=Tryz.sizeOf0
 v0:=Tryz.zeroValue0
 t3:=underlying3
 a3:=Tryz.isAgg3
 z3:=Tryz.sizeOf3
 v3:=Tryz.zeroValue3
 t4:=underlying4
 a4:=Tryz.isAgg4
 z4:=Tryz.sizeOf4
 v4:=Tryz.zeroValue4
 t5:=underlying5
 a5:=Tryz.isAgg5
 z5:=Tryz.sizeOf5
 v5:=Tryz.zeroValue5
 t9:=underlying9
 a9:=Tryz.isAgg9
 z9:=Tryz.sizeOf9
 v9:=Tryz.zeroValue9
 t21:=underlying21
 a21:=Tryz.isAgg21
 z21:=Tryz.sizeOf21
 v21:=Tryz.zeroValue21
 t31:=underlying134
 a31:=Tryz.isAgg134
 z31:=Tryz.sizeOf134
 v31:=Tryz.zeroValue134
 t46:=underlying196
 a46:=Tryz.isAgg196
 z46:=Tryz.sizeOf196
 v46:=Tryz.zeroValue196
 t51:=underlying261
 a51:=Tryz.isAgg261
 z51:=Tryz.sizeOf261
 v51:=Tryz.zeroValue261
 t105:=underlying363
 a105:=Tryz.isAgg363
 z105:=Tryz.sizeOf363
 v105:=Tryz.zeroValue363
 t119:=underlying377
 a119:=Tryz.isAgg377
 z119:=Tryz.sizeOf377
 t138:=underlying379
 a138:=Tryz.isAgg379
 z138:=Tryz.sizeOf379
 v138:=Tryz.zeroValue379
 t139:=underlying380
 a139:=Tryz.isAgg380
 z139:=Tryz.sizeOf380
 v139:=Tryz.zeroValue380
 t146:=underlying322
 a146:=Tryz.isAgg322
 z146:=Tryz.sizeOf322
 v146:=Tryz.zeroValue322
 g1:=by kernel_rfl
 g3:=by kernel_rfl
 g4:=by kernel_rfl }
def Tryz.laysContains_ren:Go.Shelf.Ren:=⟨fun|144=>269|143=>266|219=>289|217=>304|225=>305|224=>306|267=>307|266=>312|314=>313|n=>n,fun|9=>9|4=>4|3=>3|5=>5|46=>196|146=>322|51=>261|n=>n,fun|1=>0|n=>n⟩
theorem Tryz.laysContains:Go.Proofs.Lays.n144 prog Tryz.laysContains_ren:={
 mixed:=by kernel_rfl
 f143:=func266.trans (congrArg some (by kernel_rfl))
 f144:=func269.trans (congrArg some (by kernel_rfl))
 f217:=func304.trans (congrArg some (by kernel_rfl))
 f219:=func289.trans (congrArg some (by kernel_rfl))
 f224:=func306.trans (congrArg some (by kernel_rfl))
 f225:=func305.trans (congrArg some (by kernel_rfl))
 f266:=func312.trans (congrArg some (by kernel_rfl))
 f267:=func307.trans (congrArg some (by kernel_rfl))
 f314:=func313.trans (congrArg some (by kernel_rfl))
 t3:=underlying3
 a3:=Tryz.isAgg3
 z3:=Tryz.sizeOf3
 v3:=Tryz.zeroValue3
 t4:=underlying4
 a4:=Tryz.isAgg4
 z4:=Tryz.sizeOf4
 v4:=Tryz.zeroValue4
 t5:=underlying5
 a5:=Tryz.isAgg5
 z5:=Tryz.sizeOf5
 v5:=Tryz.zeroValue5
 t9:=underlying9
 a9:=Tryz.isAgg9
 z9:=Tryz.sizeOf9
 v9:=Tryz.zeroValue9
 t46:=underlying196
 a46:=Tryz.isAgg196
 z46:=Tryz.sizeOf196
 v46:=Tryz.zeroValue196
 t51:=underlying261
 a51:=Tryz.isAgg261
 z51:=Tryz.sizeOf261
 v51:=Tryz.zeroValue261
 t146:=underlying322
 a146:=Tryz.isAgg322
 z146:=Tryz.sizeOf322
 v146:=Tryz.zeroValue322
 g1:=by kernel_rfl }
def Tryz.laysLastIndex_ren:Go.Shelf.Ren:=⟨fun|148=>120|222=>190|223=>191|269=>232|n=>n,fun|9=>9|3=>3|4=>4|5=>5|146=>322|51=>261|46=>196|n=>n,fun|n=>n⟩
theorem Tryz.laysLastIndex:Go.Proofs.Lays.n148 prog Tryz.laysLastIndex_ren:={
 mixed:=by kernel_rfl
 f148:=func120.trans (congrArg some (by kernel_rfl))
 f222:=func190.trans (congrArg some (by kernel_rfl))
 f223:=func191.trans (congrArg some (by kernel_rfl))
 f269:=func232.trans (congrArg some (by kernel_rfl))
 t3:=underlying3
 a3:=Tryz.isAgg3
 z3:=Tryz.sizeOf3
 v3:=Tryz.zeroValue3
 t4:=underlying4
 a4:=Tryz.isAgg4
 z4:=Tryz.sizeOf4
 v4:=Tryz.zeroValue4
 t5:=underlying5
 a5:=Tryz.isAgg5
 z5:=Tryz.sizeOf5
 v5:=Tryz.zeroValue5
 t9:=underlying9
 a9:=Tryz.isAgg9
 z9:=Tryz.sizeOf9
 v9:=Tryz.zeroValue9
 t46:=underlying196
 a46:=Tryz.isAgg196
 z46:=Tryz.sizeOf196
 v46:=Tryz.zeroValue196
 t51:=underlying261
 a51:=Tryz.isAgg261
 z51:=Tryz.sizeOf261
 v51:=Tryz.zeroValue261
 t146:=underlying322
 a146:=Tryz.isAgg322
 z146:=Tryz.sizeOf322
 v146:=Tryz.zeroValue322 }
def Tryz.laysCompare_ren:Go.Shelf.Ren:=⟨fun|106=>61|213=>105|265=>164|n=>n,fun|9=>9|3=>3|n=>n,fun|n=>n⟩
theorem Tryz.laysCompare:Go.Proofs.Lays.n106 prog Tryz.laysCompare_ren:={
 mixed:=by kernel_rfl
 f106:=func61.trans (congrArg some (by kernel_rfl))
 f213:=func105.trans (congrArg some (by kernel_rfl))
 f265:=func164.trans (congrArg some (by kernel_rfl))
 t3:=underlying3
 a3:=Tryz.isAgg3
 z3:=Tryz.sizeOf3
 v3:=Tryz.zeroValue3
 t9:=underlying9
 a9:=Tryz.isAgg9
 z9:=Tryz.sizeOf9
 v9:=Tryz.zeroValue9 }
def Tryz.laysHasPrefix_ren:Go.Shelf.Ren:=⟨fun|206=>290|n=>n,fun|9=>9|4=>4|3=>3|n=>n,fun|n=>n⟩
theorem Tryz.laysHasPrefix:Go.Proofs.Lays.n206 prog Tryz.laysHasPrefix_ren:={
 mixed:=by kernel_rfl
 f206:=func290.trans (congrArg some (by kernel_rfl))
 t3:=underlying3
 a3:=Tryz.isAgg3
 z3:=Tryz.sizeOf3
 v3:=Tryz.zeroValue3
 t4:=underlying4
 a4:=Tryz.isAgg4
 z4:=Tryz.sizeOf4
 v4:=Tryz.zeroValue4
 t9:=underlying9
 a9:=Tryz.isAgg9
 z9:=Tryz.sizeOf9
 v9:=Tryz.zeroValue9 }
end Go.Proofs
namespace Go.Proofs.YtiefajiebebgoaaGreatDoor.Tm
set_option linter.unusedVariables false
theorem Vp:∀ a b:Qk,Jr a b=false→Jr b a=false→a=b
 |[],[],_,_=>rfl
 |[],_::_,h,_=>by cases h
 |_::_,[],_,h=>by cases h
 | a :: s,b::t,h1,h2=>by
   rw[Jr] at h1 h2
   by_cases hab:a<b
   ·rw[if_pos hab] at h1
    cases h1
   ·rw[if_neg hab] at h1
    by_cases hba:b<a
    ·rw[if_pos hba] at h2
     cases h2
    ·rw[if_neg hba] at h2
     have e:a=b:=UInt8.le_antisymm (UInt8.not_lt.1 hba) (UInt8.not_lt.1 hab);subst e;rw[if_pos rfl] at h1 h2;rw[Vp s t h1 h2]
def Mj (dec:List Qp) (all:List Zi) (a:Qk×List Zi):Prop:=∀ m∈a.2,m∈all∧m.q.path=a.1∧done dec m.q.path=false
theorem stepN_ok {dec:List Qp} {all:List Zi} {a:Qk×List Zi} {n:Zi} (hn:n∈all) (h:Mj dec all a):Mj dec all (Hk dec a n):=by
 unfold Hk
 split
 ·exact h
 ·rename_i hk
  have hd:done dec n.q.path=false:=by
   cases e:done dec n.q.path with
   |false=>rfl
   |true=>exact absurd (.inl e) hk
  intro m hm;rcases List.mem_append.1 hm with hm|hm
  ·split at hm
   ·cases hm
   ·rename_i hc
    obtain⟨m1,m2,m3⟩:=h m hm;have hne:a.2≠[]:=fun e=>by rw[e] at hm;cases hm
    have l1:Jr a.1 n.q.path=false:=by
     cases e:Jr a.1 n.q.path with
     |false=>rfl
     |true=>exact absurd (.inr ⟨hne,e⟩) hk
    have l2:Jr n.q.path a.1=false:=by
     cases e:Jr n.q.path a.1 with
     |false=>rfl
     |true=>exact absurd ⟨hne,e⟩ hc
    exact⟨m1,m2.trans (Vp _ _ l1 l2),m3⟩
  ·rw[List.mem_singleton.1 hm]
   exact⟨hn,rfl,hd⟩
theorem fold_ok {dec:List Qp} {all:List Zi}:∀(l:List Zi) (a:Qk×List Zi),(∀ n∈l,n∈all)→Mj dec all a→Mj dec all (l.foldl (Hk dec) a)
 |[],_,_,h=>h
 |n::l,a,hl,h=>fold_ok l _ (fun m hm=>hl m (List.mem_cons_of_mem _ hm)) (stepN_ok (hl n (List.mem_cons_self ..)) h)
theorem Yc (roots:List Qw) (dec:List Qp):Mj dec (Jo roots dec) (next roots dec):=fold_ok _ _ (fun _ h=>h) (fun _ h=>by cases h)
theorem Jy {α β:Type} {f:Nat→α→β} {y:β}:∀(l:List α) (i:Nat),y∈Ql f i l→∃ k,∃ a∈l,y=f k a
 |[],_,h=>by cases h
 | a::l,i,h=>by
   rcases List.mem_cons.1 h with rfl|h
   ·exact⟨i,a,List.mem_cons_self ..,rfl⟩
   ·obtain⟨k,b,hb,e⟩:=Jy l (i+1) h
    exact⟨k,b,List.mem_cons_of_mem _ hb,e⟩
theorem B7 {roots:List Qw} {dec:List Qp} {n:Zi} (h:n∈Jo roots dec):(n.path=[]∧n.q∈roots)∨∃ c∈dec,n.path=c.path∧n.place=c.place∧n.q∈c.reqs:=by
 unfold Jo at h;rcases List.mem_append.1 h with h|h
 ·obtain⟨k,q,hq,rfl⟩:=Jy _ _ h
  exact .inl ⟨rfl,hq⟩
 ·obtain⟨c,hc,h⟩:=List.mem_flatMap.1 h
  obtain⟨k,q,hq,rfl⟩:=Jy _ _ h;exact .inr ⟨c,hc,rfl,rfl,hq⟩
structure Ml (x:List Qp):Prop where
 uniq:Uniq x
 path:∀ r∈x,r.path≠[]
 place:∀ r∈x,0≤r.place∧r.place<1000000
 few:x.length<1000000
theorem both_at {p:Qk} {pl:Int} (h0:0≤pl) (h1:pl<1000000):Ws (Xg ⟨p,false,[(pl,pl+1)]⟩ ⟨p,false,[(pl,pl+1)]⟩)=false:=by
 unfold Ws Xg
 cases he:(Q9 (Xd [(pl,pl+1)] [(pl,pl+1)])).isEmpty with
 |false=>rfl
 |true =>exfalso;rw[List.isEmpty_iff,K6 (Wc _)] at he;have:=he pl h0 h1;rw[Xx,Wu _ _ pl h0 h1,mem_cons,Gl] at this;simp[h0,h1,show pl<pl+1 by omega] at this
theorem both_out (q:Qw):Ws (Xg (Q6 q) (Q6 q))=false:=rfl
theorem Bt {p:Qk} {pl:Int} {q:Qw} (h0:0≤pl) (h1:pl<1000000) (h:q.path≠p∨mem q.set pl=false):Zh [⟨p,false,[(pl,pl+1)]⟩,Q6 q]≠none:=by
 have key:(Zn [⟨p,false,[(pl,pl+1)]⟩,Q6 q]).any Ws=false:=by
  unfold Zn;rw[List.foldl_cons,List.foldl_cons,List.foldl_nil];have e1:Wn ⟨p,false,[(pl,pl+1)]⟩ []=[Xg ⟨p,false,[(pl,pl+1)]⟩ ⟨p,false,[(pl,pl+1)]⟩]:=rfl;rw[e1,Wn]
  split
  ·rename_i e
   have e:q.path=p:=e;rcases h with h|h
   ·exact absurd e h
   ·rw[List.any_cons,List.any_nil,Bool.or_false]
    unfold Ws
    cases he:(Q9 (Xg (Xg ⟨p,false,[(pl,pl+1)]⟩ ⟨p,false,[(pl,pl+1)]⟩) (Q6 q)).set).isEmpty with
    |false=>rw[Bool.and_false]
    |true =>exfalso;rw[List.isEmpty_iff,K6 (Wc _)] at he;have:=he pl h0 h1;unfold Xg Q6 at this;dsimp only at this;rw[Xx,Wu _ _ pl h0 h1,Wu _ _ pl h0 h1,J5 _ pl h0 h1,mem_cons,Gl,h] at this;simp[h0,h1,show pl<pl+1 by omega] at this
  ·split
   ·rw[List.any_cons,List.any_cons,List.any_nil,both_out,both_at h0 h1]
    rfl
   ·rw[List.any_cons,both_at h0 h1]
    show (false||(Wn (Q6 q) []).any Ws)=false;rw[show Wn (Q6 q) []=[Xg (Q6 q) (Q6 q)] from rfl,List.any_cons,both_out];rfl
 unfold Zh;rw[key];simp
theorem Hq {x:List Qp} {roots:List Qw} {dec:List Qp} {s:Qv} {n:Zi} (hg:Ml x) (hd:∀ c∈dec,c∈x) (hs:Xa x roots s) (hn:n∈Jo roots dec) (hp:done dec n.q.path=false):Xa x roots (infer s n).2:=by
 unfold infer;rcases B7 hn with⟨h1,h2⟩|⟨c,hc,h1,h2,h3⟩
 ·rw[if_pos h1]
  exact hs.add _ (root_valid h2)
 ·have hcx:=hd c hc
  rw[if_neg (by rw[h1];exact hg.path c hcx),h1,h2];refine hs.add _ (L6 hg.uniq hcx h3 (Bt (hg.place c hcx).1 (hg.place c hcx).2 (.inl fun e=>?_)));have:done dec n.q.path=true:=by unfold done;rw[e];exact List.any_eq_true.2 ⟨c,hc,beq_self_eq_true _⟩
  rw[hp] at this
  cases this
theorem Sf:∀(n:Nat) (l:List Int),l.length≤n→∃ p:Int,0≤p∧p≤(n:Int)∧p∉l
 | 0,l,h=>⟨0,by omega,by omega,by
   have:l=[]:=List.eq_nil_of_length_eq_zero (by omega);rw[this]
   exact List.not_mem_nil⟩
 | n+1,l,h=>by
   by_cases hm:((n+1:Nat):Int)∈l
   ·have hle:=List.length_erase_of_mem hm
    obtain⟨p,h0,h1,h2⟩:=Sf n (l.erase ((n+1:Nat):Int)) (by omega);refine⟨p,h0,by omega,fun hp=>h2 ((List.mem_erase_of_ne (by omega)).2 hp)⟩
   ·exact⟨((n+1:Nat):Int),by omega,by omega,hm⟩
theorem Pi (p:Int):∀ l:List Qp,mem (l.map fun r=>(r.place,r.place+1)) p=true↔∃ r∈l,r.place=p
 |[]=>by simp[mem]
 | r :: l=>by
   rw[List.map_cons,mem_cons,Bool.or_eq_true,Pi p l,Bool.and_eq_true,decide_eq_true_eq,decide_eq_true_eq];constructor
   ·rintro (h|⟨r',h,e⟩)
    ·exact⟨r,List.mem_cons_self ..,by have h:r.place≤p∧p<r.place+1:=h;omega⟩
    ·exact⟨r',List.mem_cons_of_mem _ h,e⟩
   ·rintro⟨r',h,e⟩
    rcases List.mem_cons.1 h with rfl|h
    ·left
     show r'.place≤p∧p<r'.place+1;omega
    ·exact .inr ⟨r',h,e⟩
theorem Zt {x:List Qp} {path:Qk} {r:Qp}:r∈Zp x path↔r∈x∧r.path=path∧r.yank=false:=by unfold Zp;rw[List.mem_filter,Bool.and_eq_true,beq_iff_eq];simp
theorem Mf (x:List Qp) (path:Qk):Avail x path (Qy x path):=fun p h0 h1=>by
 unfold Qy;rw[Xx,decide_eq_true h0,decide_eq_true h1,Bool.and_true,Bool.and_true,Pi];constructor
 ·rintro⟨r,h,e⟩
  obtain⟨a,b,c⟩:=Zt.1 h;exact⟨r,a,b,e,c⟩
 ·rintro⟨r,a,b,e,c⟩
  exact⟨r,Zt.2 ⟨a,b,c⟩,e⟩
theorem Em {x:List Qp} (hg:Ml x) (path:Qk):Zh [⟨path,false,Zc (Qy x path)⟩]≠none:=by
 obtain⟨p,h0,h1,h2⟩:=Sf x.length (x.map Qp.place) (by rw[List.length_map];exact Nat.le_refl _);have hp:p<1000000:=by have:=hg.few;omega
 have hm:mem (Qy x path) p=false:=by
  cases e:mem (Qy x path) p with
  |false=>rfl
  |true =>obtain⟨r,a,_,b,_⟩:=(Mf x path p h0 hp).1 e;exact absurd (List.mem_map.2 ⟨r,a,b⟩) h2
 have hn:Ws (Xg ⟨path,false,Zc (Qy x path)⟩ ⟨path,false,Zc (Qy x path)⟩)=false:=by
  unfold Ws Xg;dsimp only
  cases he:(Q9 (Xd (Zc (Qy x path)) (Zc (Qy x path)))).isEmpty with
  |false=>rfl
  |true =>exfalso;rw[List.isEmpty_iff,K6 (Wc _)] at he;have:=he p h0 hp;rw[Xx,Wu _ _ p h0 hp,J5 _ p h0 hp,hm] at this;simp[h0,hp] at this
 have e:Zn [⟨path,false,Zc (Qy x path)⟩]=[Xg ⟨path,false,Zc (Qy x path)⟩ ⟨path,false,Zc (Qy x path)⟩]:=rfl;unfold Zh;rw[e,List.any_cons,hn];simp
theorem Cv {x:List Qp} {roots:List Qw} {dec:List Qp} {s:Qv} {n0:Zi} (hg:Ml x) (hd:∀ c∈dec,c∈x) (hs:Xa x roots s) (hn:n0∈Jo roots dec) (hp:done dec n0.q.path=false) (path:Qk) (rs:List Nat):Xa x roots (Wq x path n0 rs s).2:=by unfold Wq;exact Xa.learnL path _ _ _ ((Hq hg hd hs hn hp).add _ (none_valid (Mf x path) (Em hg path)))
theorem Kv {s:List Sp} {p:Int} (h0:0≤p) (h1:p<1000000):has s p=mem s p:=by unfold has;rw[decide_eq_true h0,decide_eq_true h1,Bool.true_and,Bool.true_and]
theorem Tw {dec:List Qp} {c:Qp} {n:Zi} (h:Yf dec c=some n):n.path=c.path∧n.place=c.place∧n.q∈c.reqs∧∃ d∈dec++[c],d.path=n.q.path∧has n.q.set d.place=false:=by unfold Yf at h;have hm:=List.mem_of_find?_eq_some h;have hp:=List.find?_some h;obtain⟨k,q,hq,rfl⟩:=Jy _ _ hm;obtain⟨d,hd,e⟩:=List.any_eq_true.1 hp;rw[Bool.and_eq_true,beq_iff_eq] at e;exact⟨rfl,rfl,hq,d,hd,e.1,by simpa using e.2⟩
theorem N9 {x:List Qp} {roots:List Qw} {dec:List Qp} {s:Qv} {c:Qp} {n:Zi} (hg:Ml x) (hs:Xa x roots s) (hc:c∈x) (hp:done dec c.path=false) (h:Yf dec c=some n):Xa x roots (infer s n).2:=by
 obtain⟨h1,h2,h3,d,hd,e1,e2⟩:=Tw h;unfold infer;rw[if_neg (by rw[h1];exact hg.path c hc),h1,h2];refine hs.add _ (L6 hg.uniq hc h3 (Bt (hg.place c hc).1 (hg.place c hc).2 ?_))
 by_cases e:n.q.path=c.path
 ·right
  rcases List.mem_append.1 hd with hd|hd
  ·exfalso
   have:done dec c.path=true :=(by unfold done;exact List.any_eq_true.2 ⟨d,hd,by rw[e1,e];exact beq_self_eq_true _⟩);rw[hp] at this
   cases this
  ·rw[List.mem_singleton.1 hd] at e2
   rw[←Kv (hg.place c hc).1 (hg.place c hc).2];exact e2
 ·exact .inl e
theorem R5 {x:List Qp} {roots:List Qw} {rec:Qv→List Qp→Bg} {dec:List Qp} {path:Qk} {ns:List Zi} {n0:Zi} (hg:Ml x) (hrec:∀ s dec',(∀ c∈dec',c∈x)→Xa x roots s→Xa x roots (rec s dec').2.2) (hd:∀ c∈dec,c∈x) (hns:∀ n∈ns,n∈Jo roots dec∧done dec n.q.path=false) (hn0:n0∈ns) (hp:done dec path=false):
 ∀(cs:List Qp) (s:Qv) (rs:List Nat) (sk:List Ol),(∀ c∈cs,c∈x∧c.path=path)→Xa x roots s→Xa x roots (J7 x rec dec path ns n0 cs s rs sk).2.2
 |[],s,rs,_,_,hs=>Cv hg hd hs (hns n0 hn0).1 (hns n0 hn0).2 path rs
 | c :: cs,s,rs,sk,hcs,hs=>by
   have hc:=hcs c (List.mem_cons_self ..);have hcs2:∀ c∈cs,c∈x∧c.path=path:=fun c h=>hcs c (List.mem_cons_of_mem _ h);have ih:=fun s rs sk hs=>R5 (rec:=rec) hg hrec hd hns hn0 hp cs s rs sk hcs2 hs
   have hd2:∀ d∈dec++[c],d∈x:=fun d h=>by
    rcases List.mem_append.1 h with h|h
    ·exact hd d h
    ·rw[List.mem_singleton.1 h]
     exact hc.1
   rw[J7]
   split
   ·exact hs
   ·split
    ·rename_i k hk
     have hkn:=hns k (List.mem_of_find?_eq_some hk);exact ih _ _ _ (Hq hg hd hs hkn.1 hkn.2)
    ·split
     ·split
      ·exact hs
      ·exact ih _ _ _ hs
     ·split
      ·rename_i n hn
       have hv:=N9 (roots:=roots) hg hs hc.1 (by rw[hc.2];exact hp) hn
       split
       ·exact hv
       ·exact ih _ _ _ hv
      ·have hr:=hrec s (dec++[c]) hd2 hs
       split
       ·rename_i e
        rw[e] at hr;exact hr
       ·rename_i e
        rw[e] at hr
        split
        ·exact hr
        ·split
         ·exact hr
         ·exact ih _ _ _ hr
theorem Np {x:List Qp} (roots:List Qw) (hg:Ml x):∀(f:Nat) (s:Qv) (dec:List Qp),(∀ c∈dec,c∈x)→Xa x roots s→Xa x roots (Za x roots f s dec).2.2
 |0,_,_,_,hs=>hs
 | f + 1,s,dec,hd,hs=>by
   rw[Za];have hok:=Yc roots dec
   split
   ·exact hs
   ·rename_i n0 ns e
    have hn0:n0∈(next roots dec).2 :=(by rw[e];exact List.mem_cons_self ..);refine R5 hg (fun s dec' hd' hs'=>Np roots hg f s dec' hd' hs') hd (fun n hn=>⟨(hok n hn).1,(hok n hn).2.2⟩) hn0 ?_ _ s [] [] (fun c hc=>?_) hs
    ·have:=hok n0 hn0
     rw[←this.2.1];exact this.2.2
    ·obtain⟨a,b,_⟩:=Zt.1 hc
     exact⟨a,b⟩
theorem O5 (x:List Qp) (roots:List Qw):Xa x roots Zl:=fun _ h=>by cases h
theorem Qs:∀ a:Qk,Jr a a=false
 |[]=>rfl
 |a::s=>by rw[Jr,if_neg (UInt8.lt_irrefl a),if_pos rfl];exact Qs s
theorem Je:∀ a b c:Qk,Jr a b=true→Jr b c=true→Jr a c=true
 | a,b,[],_,h=>by
   rw[show Jr b []=false from by cases b<;>rfl] at h
   cases h
 |[],_,_::_,_,_=>rfl
 |a::s,[],_::_,h,_=>by cases h
 | a :: s,b::t,c::u,h1,h2=>by
   rw[Jr] at h1 h2 ⊢
   by_cases hab:a<b
   ·by_cases hbc:b<c
    ·rw[if_pos (UInt8.lt_trans hab hbc)]
    ·rw[if_neg hbc] at h2
     by_cases e:b=c
     ·subst e
      rw[if_pos hab]
     ·rw[if_neg e] at h2
      cases h2
   ·rw [if_neg hab] at h1
    by_cases e:a=b
    ·subst e
     rw[if_pos rfl] at h1
     by_cases hbc:a<c
     ·rw[if_pos hbc]
     ·rw[if_neg hbc] at h2 ⊢
      by_cases e2:a=c
      ·rw[if_pos e2] at h2 ⊢
       exact Je s t u h1 h2
      ·rw[if_neg e2] at h2
       cases h2
    ·rw[if_neg e] at h1
     cases h1
def Rq (dec:List Qp) (P:Zi→Prop) (a:Qk×List Zi):Prop:=∀ n,P n→done dec n.q.path=false→a.2≠[]∧(n.q.path=a.1→n∈a.2)∧(n.q.path≠a.1→Jr a.1 n.q.path=true)
theorem stepN_all {dec:List Qp} {P:Zi→Prop} {a:Qk×List Zi} {n:Zi} (h:Rq dec P a):Rq dec (fun m=>P m∨m=n) (Hk dec a n):=by
 unfold Hk
 split
 ·rename_i hk
  intro m hm hd;rcases hm with hm|rfl
  ·exact h m hm hd
  ·rcases hk with hk|⟨k1,k2⟩
   ·rw[hd] at hk
    cases hk
   ·refine⟨k1,fun e=>?_,fun _=>k2⟩
    rw[e,Qs] at k2
    cases k2
 ·rename_i hk
  intro m hm hd;refine⟨fun e=>absurd e (by simp),?_,?_⟩
  ·intro e
   have e:m.q.path=n.q.path:=e;rcases hm with hm|rfl
   ·obtain⟨h1,h2,h3⟩:=h m hm hd
    by_cases e2:m.q.path=a.1
    ·have l:Jr n.q.path a.1=false:=by rw[←e,e2];exact Qs _
     rw[if_neg (fun hh=>by rw[l] at hh;exact absurd hh.2 (by decide))];exact List.mem_append.2 (.inl (h2 e2))
    ·exact absurd (.inr ⟨h1,by rw[←e];exact h3 e2⟩) hk
   ·exact List.mem_append.2 (.inr (List.mem_singleton.2 rfl))
  ·intro e
   have e:m.q.path≠n.q.path:=e;show Jr n.q.path m.q.path=true;rcases hm with hm|rfl
   ·obtain⟨h1,h2,h3⟩:=h m hm hd
    have l1:Jr a.1 n.q.path=false:=by
     cases e5:Jr a.1 n.q.path with
     |false=>rfl
     |true=>exact absurd (.inr ⟨h1,e5⟩) hk
    by_cases e2:n.q.path=a.1
    ·rw[e2] at e ⊢
     exact h3 e
    ·have l2:Jr n.q.path a.1=true:=by
      cases e5:Jr n.q.path a.1 with
      |true=>rfl
      |false=>exact absurd (Vp _ _ e5 l1) e2
     by_cases e3:m.q.path=a.1
     ·rw[e3]
      exact l2
     ·exact Je _ _ _ l2 (h3 e3)
   ·exact absurd rfl e
theorem fold_all {dec:List Qp}:∀(l:List Zi) (P:Zi→Prop) (a:Qk×List Zi),Rq dec P a→Rq dec (fun m=>P m∨m∈l) (l.foldl (Hk dec) a)
 |[],P,a,h=>fun m hm hd=>h m (hm.elim id (fun h=>by cases h)) hd
 | n::l,P,a,h=>by
   rw[List.foldl_cons];have:=fold_all l _ _ (stepN_all (n:=n) h);intro m hm hd;refine this m ?_ hd;rcases hm with hm|hm
   ·exact .inl (.inl hm)
   ·rcases List.mem_cons.1 hm with e|hm
    ·exact .inl (.inr e)
    ·exact .inr hm
theorem Cn {roots:List Qw} {dec:List Qp} {n:Zi} (hn:n∈Jo roots dec) (hd:done dec n.q.path=false):(next roots dec).2≠[]∧(n.q.path=(next roots dec).1→n∈(next roots dec).2):=
 have h:=fold_all (Jo roots dec) (fun _=>False) ([],[]) (fun _ hm=>hm.elim) n (.inr hn) hd
 ⟨h.1,h.2.1⟩
structure Mw (x:List Qp) (roots:List Qw) (dec:List Qp):Prop where
 there:∀ c∈dec,c∈x∧c.yank=false
 nodup:dec.Pairwise fun c d=>c.path≠d.path
 meets:∀ n∈Jo roots dec,∀ c∈dec,c.path=n.q.path→has n.q.set c.place=true
theorem needs_snoc {roots:List Qw} {dec:List Qp} {c:Qp} {n:Zi} (h:n∈Jo roots (dec++[c])):n∈Jo roots dec∨n∈Ql (fun i q=>(⟨q,c.path,c.place,i⟩:Zi)) 0 c.reqs:=by unfold Jo at h ⊢;rw[List.flatMap_append,List.flatMap_singleton,←List.append_assoc] at h;exact List.mem_append.1 h
theorem Mw.snoc {x:List Qp} {roots:List Qw} {dec:List Qp} {c:Qp} (h:Mw x roots dec) (hc:c∈Zp x (next roots dec).1) (hp:done dec c.path=false)
 (h1:(next roots dec).2.find? (fun n=>!has n.q.set c.place)=none) (h2:Yf dec c=none):Mw x roots (dec++[c]):=by
 obtain⟨hx,hpath,hy⟩:=Zt.1 hc
 have hnd:∀ d∈dec,d.path≠c.path:=fun d hd e=>by
  have:done dec c.path=true:=by unfold done;exact List.any_eq_true.2 ⟨d,hd,by rw[e];exact beq_self_eq_true _⟩
  rw[hp] at this
  cases this
 refine⟨fun d hd=>?_,?_,?_⟩
 ·rcases List.mem_append.1 hd with hd|hd
  ·exact h.there d hd
  ·rw[List.mem_singleton.1 hd]
   exact⟨hx,hy⟩
 ·refine List.pairwise_append.2 ⟨h.nodup,List.pairwise_singleton _ _,fun d hd e he=>?_⟩
  rw[List.mem_singleton.1 he];exact hnd d hd
 ·intro n hn d hd e
  rcases needs_snoc hn with hn1|hn1
  ·rcases List.mem_append.1 hd with hd|hd
   ·exact h.meets n hn1 d hd e
   ·have ed:=List.mem_singleton.1 hd
    subst ed;have hdn:done dec n.q.path=false :=(by rw[←e];exact hp);have hm:=(Cn hn1 hdn).2 (by rw[←e];exact hpath);have:=List.find?_eq_none.1 h1 n hm;simpa using this
  ·have hf:=List.find?_eq_none.1 h2 n hn1
   cases hh:has n.q.set d.place with
   |true=>rfl
   |false =>exfalso;apply hf;exact List.any_eq_true.2 ⟨d,hd,by rw[e,hh,beq_self_eq_true];rfl⟩
def Mm (roots:List Qw) (d:List Qp):Prop:=∀ n∈Jo roots d,done d n.q.path=true
theorem R8 {x:List Qp} {roots:List Qw} {rec:Qv→List Qp→Bg} {dec:List Qp} {n0:Zi} (hrec:∀ s dec' d t k s',Mw x roots dec'→rec s dec'=(some (d,t),k,s')→Mw x roots d∧Mm roots d) (hd:Mw x roots dec) (hp:∀ c∈Zp x (next roots dec).1,done dec c.path=false):
 ∀(cs:List Qp) (s:Qv) (rs:List Nat) (sk:List Ol),(∀ c∈cs,c∈Zp x (next roots dec).1)→∀ d t k s',J7 x rec dec (next roots dec).1 (next roots dec).2 n0 cs s rs sk=(some (d,t),k,s')→Mw x roots d∧Mm roots d
 | [],s,rs,_,_,d,t,k,s',h=>by
   rw[J7] at h
   cases h
 | c :: cs,s,rs,sk,hcs,d,t,k,s',h=>by
   have hc:=hcs c (List.mem_cons_self ..);have ih:=fun s rs sk=>R8 (n0:=n0) hrec hd hp cs s rs sk (fun c h=>hcs c (List.mem_cons_of_mem _ h)) d t k s';rw[J7] at h
   split at h
   ·cases h
   ·split at h
    ·exact ih _ _ _ h
    ·rename_i h1
     split at h
     ·split at h
      ·cases h
      ·exact ih _ _ _ h
     ·split at h
      ·split at h
       ·cases h
       ·exact ih _ _ _ h
      ·rename_i h2
       have hd2:=hd.snoc hc (hp c hc) h1 h2
       split at h
       ·rename_i d' t' k' s2 e
        injection h with h _;injection h with h;injection h with h _;subst h;exact hrec _ _ _ _ _ _ hd2 e
       ·split at h
        ·cases h
        ·split at h
         ·cases h
         ·exact ih _ _ _ h
theorem Xr {x:List Qp} (roots:List Qw):∀(f:Nat) (s:Qv) (dec:List Qp) (d:List Qp) (t:List Ol) (k:Nat) (s':Qv),Mw x roots dec→Za x roots f s dec=(some (d,t),k,s')→Mw x roots d∧Mm roots d
 |0,_,_,_,_,_,_,_,h=>by cases h
 | f+1,s,dec,d,t,k,s',hd,h=>by
   rw[Za] at h;have hok:=Yc roots dec
   split at h
   ·rename_i e
    injection h with h _;injection h with h;injection h with h _;subst h;refine⟨hd,fun n hn=>?_⟩
    cases hdn:done dec n.q.path with
    |true=>rfl
    |false=>exact absurd e (Cn hn hdn).1
   ·rename_i n0 ns e
    have hn0:n0∈(next roots dec).2 :=(by rw[e];exact List.mem_cons_self ..);have hpd:done dec (next roots dec).1=false :=(by rw[←(hok n0 hn0).2.1];exact(hok n0 hn0).2.2);exact R8 (fun s dec' d t k s'=>Xr roots f s dec' d t k s') hd (fun c hc=>by rw[(Zt.1 hc).2.1];exact hpd) _ s [] [] (fun c hc=>hc) d t k s' h
def stepF:Nat→List Nat→Nat
 |_,[]=>3
 |k,f::l=>max (k*(1+f)+k+3) (stepF (k+1) l)
def I6:Nat→List Nat
 |0=>[3]
 |n+1=>stepF 1 (I6 n)::I6 n
def E3 (n:Nat):Nat:=(I6 n).headD 3
theorem R9:∀ n,(I6 n).length=n+1
 |0=>rfl
 |n+1=>by rw[I6,List.length_cons,R9 n]
theorem I5:∀(n i:Nat) (h:i≤n),(I6 n)[i]'(by rw[R9];omega)=E3 (n-i)
 |0,0,_=>rfl
 |n+1,0,_=>by rw[Nat.sub_zero];rfl
 |n+1,i+1,h=>by have:=I5 n i (by omega);rw[show n+1-(i+1)=n-i by omega,←this];rfl
theorem Nn:∀(l:List Nat) (k:Nat),3≤stepF k l
 |[],_=>Nat.le_refl _
 |f::l,k=>Nat.le_trans (Nn l (k+1)) (Nat.le_max_right ..)
theorem Ab:∀(l:List Nat) (k i:Nat) (h:i<l.length),(k+i)*(1+l[i])+(k+i)+3≤stepF k l
 |f::l,k,0,_=>Nat.le_max_left ..
 |f::l,k,i+1,h=>by have:=Ab l (k+1) i (by simpa using h);rw[show k+1+i=k+(i+1) by omega] at this;exact Nat.le_trans this (Nat.le_max_right ..)
theorem cost_three:∀ n,3≤E3 n
 |0=>Nat.le_refl _
 |n+1=>Nn (I6 n) 1
theorem cost_step (n k:Nat) (h1:1≤k) (h2:k≤n):k*(1+E3 (n-k))+k+3≤E3 n:=by obtain⟨m,rfl⟩:∃ m,n=m+1:=⟨n-1,by omega⟩;obtain⟨i,rfl⟩:∃ i,k=i+1:=⟨k-1,by omega⟩;have h:=Ab (I6 m) 1 i (by rw[R9];omega);rw[I5 m i (by omega),Nat.add_comm 1 i] at h;rw[show m+1-(i+1)=m-i by omega];exact h
theorem cost_16:E3 16<65536:=by decide +kernel
theorem D3 {s:Qv} (hf:s.full=false) (h:s.infs.length<65536) (i:D7) (l:List Qu):(add s i l).2.full=false∧(add s i l).2.infs.length≤s.infs.length+1:=by
 unfold add
 split
 ·exact⟨hf,Nat.le_succ _⟩
 ·rw[if_neg (by omega)]
  refine⟨hf,?_⟩;show (s.infs++[i]).length≤_;rw[List.length_append];exact Nat.le_refl _
theorem F8 {s:Qv} (hf:s.full=false) (h:s.infs.length<65536) (n:Zi):(infer s n).2.full=false∧(infer s n).2.infs.length≤s.infs.length+1:=by
 unfold infer
 split
 ·exact D3 hf h _ _
 ·exact D3 hf h _ _
theorem Yd (path:Qk):∀(rs:List Nat) (a:Nat) (s:Qv),s.full=false→s.infs.length+rs.length≤65536→(learnL path rs a s).2.full=false∧(learnL path rs a s).2.infs.length≤s.infs.length+rs.length
 |[],_,s,hf,_=>⟨hf,Nat.le_refl _⟩
 | r :: rs,a,s,hf,h=>by
   rw[List.length_cons] at h ⊢;rw[learnL]
   split
   ·exact⟨hf,Nat.le_add_right ..⟩
   ·split
    ·have:=Yd path rs a s hf (by omega)
     exact⟨this.1,by omega⟩
    ·split
     ·have:=Yd path rs a s hf (by omega)
      exact⟨this.1,by omega⟩
     ·rename_i l _
      have h1:=D3 hf (by omega) (3,path,0,0,a,r) l;have:=Yd path rs (add s (3,path,0,0,a,r) l).1 (add s (3,path,0,0,a,r) l).2 h1.1 (by omega);exact⟨this.1,by omega⟩
theorem learn_room (x:List Qp) (path:Qk) (n0:Zi) (rs:List Nat) {s:Qv} (hf:s.full=false) (h:s.infs.length+rs.length+3≤65536):(Wq x path n0 rs s).2.full=false∧(Wq x path n0 rs s).2.infs.length≤s.infs.length+rs.length+3:=by unfold Wq;have h1:=F8 hf (by omega) n0;have h2:=D3 h1.1 (by omega) (2,path,0,0,0,0) (Xc path (Qy x path));have h3:=Yd path ((add (infer s n0).2 (2,path,0,0,0,0) (Xc path (Qy x path))).1::rs) (infer s n0).1 _ h2.1 (by rw[List.length_cons];omega);rw[List.length_cons] at h3;exact⟨h3.1,by omega⟩
theorem Eb {x:List Qp} {rec:Qv→List Qp→Bg} {dec:List Qp} {path:Qk} {ns:List Zi} {n0:Zi} {b:Nat}
 (hrec:∀ s c,c∈Zp x path→s.full=false→s.infs.length+b≤65536→(rec s (dec++[c])).2.2.full=false∧(rec s (dec++[c])).2.2.infs.length≤s.infs.length+b):
 ∀ (cs:List Qp) (s:Qv) (rs:List Nat) (sk:List Ol),(∀ c∈cs,c∈Zp x path)→s.full=false→s.infs.length+(cs.length*(1+b)+(rs.length+cs.length)+3)≤65536→
   (J7 x rec dec path ns n0 cs s rs sk).2.2.full=false∧(J7 x rec dec path ns n0 cs s rs sk).2.2.infs.length≤s.infs.length+(cs.length*(1+b)+(rs.length+cs.length)+3)
 |[],s,rs,_,_,hf,h=>by rw[J7];have:=learn_room x path n0 rs hf (by simp at h;omega);exact⟨this.1,by simp;omega⟩
 | c :: cs,s,rs,sk,hcs,hf,h=>by
   have e:(c::cs).length*(1+b)=cs.length*(1+b)+(1+b) :=(by rw[List.length_cons,Nat.succ_mul]);rw[e,List.length_cons] at h ⊢;have hcs2:∀ c∈cs,c∈Zp x path:=fun c h=>hcs c (List.mem_cons_of_mem _ h);have ih:=fun (s2:Qv) (r:Nat) (sk:List Ol) (g1:s2.full=false) (g2:s2.infs.length≤s.infs.length+(1+b))=>by have:=Eb (rec:=rec) (dec:=dec) (path:=path) (ns:=ns) (n0:=n0) hrec cs s2 (rs++[r]) sk hcs2 g1 (by rw[List.length_append,List.length_singleton];omega);rw[List.length_append,List.length_singleton] at this;exact(⟨this.1,by omega⟩:(J7 x rec dec path ns n0 cs s2 (rs++[r]) sk).2.2.full=false∧(J7 x rec dec path ns n0 cs s2 (rs++[r]) sk).2.2.infs.length≤s.infs.length+(cs.length*(1+b)+(1+b)+(rs.length+(cs.length+1))+3))
   rw[J7];rw[if_neg (by rw[hf];decide)]
   split
   ·rename_i k _
    have g:=F8 hf (by omega) k;exact ih _ _ _ g.1 (by omega)
   ·split
    ·split
     ·exact⟨hf,Nat.le_add_right ..⟩
     ·exact ih _ _ _ hf (by omega)
    ·split
     ·rename_i n _
      have g:=F8 hf (by omega) n
      split
      ·exact⟨g.1,by show (infer s n).2.infs.length≤_;omega⟩
      ·exact ih _ _ _ g.1 (by omega)
     ·have g:=hrec s c (hcs c (List.mem_cons_self ..)) hf (by omega)
      split
      ·rename_i e2
       rw[e2] at g;exact⟨g.1,by have:=g.2;dsimp only at this ⊢;omega⟩
      ·rename_i e2
       rw[e2] at g;dsimp only at g;rw[if_neg (by rw[g.1];decide)]
       split
       ·exact⟨g.1,by dsimp only;omega⟩
       ·exact ih _ _ _ g.1 (by omega)
def Xb (x:List Qp) (dec:List Qp):Nat:=(x.filter fun r=>!r.yank&&!done dec r.path).length
theorem Dn {α:Type} (A B C:α→Bool) (h:∀ a,A a=(B a||C a)) (h2:∀ a,(B a&&C a)=false):∀ l:List α,(l.filter A).length=(l.filter B).length+(l.filter C).length
 |[]=>rfl
 | a::l=>by
   have ih:=Dn A B C h h2 l;have e:=h a;have e2:=h2 a;rw[List.filter_cons,List.filter_cons,List.filter_cons]
   cases hb:B a<;>cases hc:C a<;>rw[hb,hc] at e e2<;>simp only[e,Bool.or_false,Bool.or_true,Bool.false_eq_true,if_true,if_false,List.length_cons]<;>first|omega|(exact absurd e2 (by decide))
theorem Gx (dec:List Qp) (c:Qp) (p:Qk):done (dec++[c]) p=(done dec p||c.path==p):=by unfold done;rw[List.any_append];simp
theorem Vg {x:List Qp} {dec:List Qp} {c:Qp} {p:Qk} (hc:c.path=p) (hp:done dec p=false):Xb x dec=Xb x (dec++[c])+(Zp x p).length:=by
 unfold Xb Zp;refine Dn _ _ _ (fun r=>?_) (fun r=>?_) x
 ·rw[Gx,hc]
  by_cases e:r.path=p
  ·rw[e,hp]
   simp
  ·have e1:(r.path==p)=false:=beq_eq_false_iff_ne.2 e
   have e2:(p==r.path)=false:=beq_eq_false_iff_ne.2 (fun h=>e h.symm);rw[e1,e2,Bool.or_false,Bool.false_and,Bool.or_false]
 ·rw[Gx,hc]
  by_cases e:r.path=p
  ·rw[e,beq_self_eq_true]
   simp
  ·have e1:(r.path==p)=false:=beq_eq_false_iff_ne.2 e
   rw[e1,Bool.false_and,Bool.and_false]
theorem Su (x dec:List Qp):Xb x dec≤x.length:=List.length_filter_le ..
theorem cands_le {x:List Qp} {dec:List Qp} {p:Qk} (hp:done dec p=false):(Zp x p).length≤Xb x dec:=by have h:=Vg (x:=x) (dec:=dec) (c:=⟨p,0,[],false⟩) (p:=p) rfl hp;omega
theorem Sh {x:List Qp} (roots:List Qw):∀(f:Nat) (s:Qv) (dec:List Qp),s.full=false→s.infs.length+E3 (Xb x dec)≤65536→
 (Za x roots f s dec).2.2.full=false∧(Za x roots f s dec).2.2.infs.length≤s.infs.length+E3 (Xb x dec)
 |0,s,dec,hf,_=>⟨hf,Nat.le_add_right ..⟩
 | f + 1,s,dec,hf,h=>by
   rw[Za];have hok:=Yc roots dec
   split
   ·exact⟨hf,Nat.le_add_right ..⟩
   ·rename_i n0 ns e
    have hn0:n0∈(next roots dec).2 :=(by rw[e];exact List.mem_cons_self ..);have hp:done dec (next roots dec).1=false :=(by rw[←(hok n0 hn0).2.1];exact(hok n0 hn0).2.2);generalize hpath:(next roots dec).1=p at hp
    by_cases hk:(Zp x p).length=0
    ·have e0:Zp x p=[]:=List.eq_nil_of_length_eq_zero hk
     have h3:=cost_three (Xb x dec);rw[e0];have:=Eb (x:=x) (rec:=Za x roots f) (dec:=dec) (path:=p) (ns:=(next roots dec).2) (n0:=n0) (b:=0) (fun s c hc=>by rw[e0] at hc;cases hc) [] s [] [] (fun c hc=>by cases hc) hf (by simp;omega);simp at this;exact⟨this.1,by omega⟩
    ·have hle:=cands_le (x:=x) hp
     have hs:=cost_step (Xb x dec) (Zp x p).length (by omega) hle
     have:=Eb (x:=x) (rec:=Za x roots f) (dec:=dec) (path:=p) (ns:=(next roots dec).2) (n0:=n0) (b:=E3 (Xb x dec-(Zp x p).length)) (fun s2 c hc g1 g2=>by
      have ho:=Vg (x:=x) (dec:=dec) (Zt.1 hc).2.1 hp;have e2:Xb x (dec++[c])=Xb x dec-(Zp x p).length :=(by omega);have ih:=Sh roots f s2 (dec++[c]) g1 (by rw[e2];exact g2);rw[e2] at ih
      exact ih) (Zp x p) s [] [] (fun c hc=>hc) hf (by rw[List.length_nil,Nat.zero_add];omega)
     rw[List.length_nil,Nat.zero_add] at this;exact⟨this.1,by omega⟩
theorem P7:∀ {m n:Nat},m≤n→n≤16→E3 m≤E3 n:=by
 have h:∀ n,n≤16→∀ m,m≤n→E3 m≤E3 n:=by decide +kernel
 exact fun {m n} h1 h2=>h n h2 m h1
theorem Sy {x:List Qp} (roots:List Qw) (hx:x.length≤16) (f:Nat):(Za x roots f Zl []).2.2.full=false:=by refine(Sh roots f Zl [] rfl ?_).1;have h1:=P7 (Su x []) hx;have h2:=P7 hx (Nat.le_refl 16);have h3:=cost_16;show 0+E3 (Xb x [])≤65536;omega
def G6 (l:List Qu):Prop:=l.Pairwise fun a b=>Jr a.path b.path=true
theorem Ej {t u:Qu}:∀ {l:List Qu},u∈Wn t l→u.path=t.path∨∃ v∈l,v.path=u.path
 |[],h=>by rw[Wn,List.mem_singleton] at h;rw[h];exact .inl rfl
 | v :: l,h=>by
   rw[Wn] at h
   split at h
   ·rcases List.mem_cons.1 h with rfl|h
    ·exact .inr ⟨v,List.mem_cons_self ..,rfl⟩
    ·exact .inr ⟨u,List.mem_cons_of_mem _ h,rfl⟩
   ·split at h
    ·rcases List.mem_cons.1 h with rfl|h
     ·exact .inl rfl
     ·exact .inr ⟨u,h,rfl⟩
    ·rcases List.mem_cons.1 h with rfl|h
     ·exact .inr ⟨u,List.mem_cons_self ..,rfl⟩
     ·rcases Ej h with h|⟨w,hw,e⟩
      ·exact .inl h
      ·exact .inr ⟨w,List.mem_cons_of_mem _ hw,e⟩
theorem Cf (t:Qu):∀ {l:List Qu},G6 l→G6 (Wn t l)
 |[],_=>List.pairwise_singleton _ _
 | v :: l,h=>by
   obtain⟨h1,h2⟩:=List.pairwise_cons.1 h;rw[Wn]
   split
   ·exact List.pairwise_cons.2 ⟨h1,h2⟩
   ·rename_i hne
    split
    ·rename_i hlt
     refine List.pairwise_cons.2 ⟨fun w hw=>?_,h⟩;rcases List.mem_cons.1 hw with rfl|hw
     ·exact hlt
     ·exact Je _ _ _ hlt (h1 w hw)
    ·rename_i hge
     have hvt:Jr v.path t.path=true:=by
      cases e:Jr v.path t.path with
      |true=>rfl
      | false=>
        have e2:Jr t.path v.path=false:=by
         cases e3:Jr t.path v.path with
         |false=>rfl
         |true=>exact absurd e3 hge
        exact absurd (Vp _ _ e2 e) hne
     refine List.pairwise_cons.2 ⟨fun w hw=>?_,Cf t h2⟩;rcases Ej hw with e|⟨w',hw',e⟩
     ·rw[e]
      exact hvt
     ·rw[←e]
      exact h1 w' hw'
theorem Gr:∀(l a:List Qu),G6 a→G6 (l.foldl (fun a t=>Wn t a) a)
 |[],_,h=>h
 |t::l,a,h=>Gr l _ (Cf t h)
theorem Mb {l c:List Qu} (h:Zh l=some c):G6 c:=by
 unfold Zh at h
 split at h
 ·cases h
 ·injection h with h
  rw[←h];exact List.Pairwise.filter _ (Gr l [] List.Pairwise.nil)
def Mu (p:Qk) (σ:Vs) (l:List Qu):Prop:=∀ t∈l,t.path≠p→Zo t σ=true
theorem Cg {p:Qk} {σ:Vs} (hr:D8 σ) {t:Qu} (ht:t.path≠p→Zo t σ=true):∀ {l:List Qu},Mu p σ l→Mu p σ (Wn t l)
 |[],_=>fun u hu hp=>by rw[Wn,List.mem_singleton] at hu;subst hu;rw[Un rfl hr,ht hp];rfl
 | v :: l,h=>fun u hu hp=>by
   rw[Wn] at hu
   split at hu
   ·rename_i e
    rcases List.mem_cons.1 hu with rfl|hu
    ·have hvp:v.path≠p:=hp
     rw[Un e.symm hr,h v (List.mem_cons_self ..) hvp,ht (by rw[e];exact hvp)];rfl
    ·exact h u (List.mem_cons_of_mem _ hu) hp
   ·split at hu
    ·rcases List.mem_cons.1 hu with rfl|hu
     ·rw[Un rfl hr,ht hp]
      rfl
     ·exact h u hu hp
    ·rcases List.mem_cons.1 hu with rfl|hu
     ·exact h u (List.mem_cons_self ..) hp
     ·exact Cg hr ht (fun w hw=>h w (List.mem_cons_of_mem _ hw)) u hu hp
theorem Py {p:Qk} {σ:Vs} (hr:D8 σ):∀(l a:List Qu),Mu p σ l→Mu p σ a→Mu p σ (l.foldl (fun a t=>Wn t a) a)
 |[],_,_,h=>h
 |t::l,a,hl,h=>Py hr l _ (fun u hu=>hl u (List.mem_cons_of_mem _ hu)) (Cg hr (hl t (List.mem_cons_self ..)) h)
theorem Md {p:Qk} {σ:Vs} (hr:D8 σ) {l c:List Qu} (h:Zh l=some c) (ho:Mu p σ l):Mu p σ c:=by
 unfold Zh at h
 split at h
 ·cases h
 ·injection h with h
  rw[←h];exact fun t ht hp=>Py hr l [] ho (fun _ h=>by cases h) t (List.mem_filter.1 ht).1 hp
theorem Ez {p:Qk}:∀ {c:List Qu},G6 c→∀ t,c.find? (fun t=>t.path==p)=some t→∀ u∈c.eraseP (fun t=>t.path==p),u.path≠p
 |[],_,_,h,_,_=>by cases h
 | v :: c,hs,t,h,u,hu=>by
   obtain⟨h1,h2⟩:=List.pairwise_cons.1 hs;rw[List.find?_cons] at h;rw[List.eraseP_cons] at hu
   cases hv:v.path==p with
   | true=>
     rw[hv] at hu;have e:=beq_iff_eq.1 hv;intro e2;have:=h1 u (by simpa using hu);rw[e,e2,Qs] at this
     cases this
   | false=>
     rw[hv] at h hu;rcases List.mem_cons.1 (by simpa using hu:u∈v::c.eraseP fun t=>t.path==p) with rfl|hu
     ·exact fun e=>by rw[e,beq_self_eq_true] at hv;cases hv
     ·exact Ez h2 t h u hu
theorem L4 {p:Qk} {σ:Vs} (hr:D8 σ) {a b c:List Qu} (ha:Mu p σ a) (hb:Mu p σ b) (h:Vf a b p=some c):Mu p σ c∧Zv c σ=(Zv a σ||Zv b σ):=by
 unfold Vf at h
 cases h1:Zj a p with
 |none=>rw[h1] at h;cases h
 | some x=>
   obtain⟨t,r⟩:=x
   cases h2:Zj b p with
   |none=>rw[h1,h2] at h;cases h
   | some y=>
     obtain⟨u,m⟩:=y;rw[h1,h2] at h;dsimp only at h
     have side:∀ {l:List Qu} {t:Qu} {r:List Qu},Mu p σ l→Zj l p=some (t,r)→Zv r σ=true:=fun {l t r} ho hsp=>by
      unfold Zj at hsp
      cases hc:Zh l with
      |none=>rw[hc] at hsp;cases hsp
      | some c0=>
        rw[hc] at hsp;dsimp only at hsp
        cases hf:c0.find? (fun t=>t.path==p) with
        |none=>rw[hf] at hsp;cases hsp
        |some w =>rw[hf] at hsp;injection hsp with hsp;injection hsp with _ e2;subst e2;exact List.all_eq_true.2 fun v hv=>Md hr hc ho v (List.mem_of_mem_eraseP hv) (Ez (Mb hc) w hf v hv)
     have vr:=side ha h1;have vm:=side hb h2;obtain⟨e1,p1⟩:=Kf hr h1;obtain⟨e2,p2⟩:=Kf hr h2;refine⟨Md hr h ?_,?_⟩
     ·intro v hv hp
      rcases List.mem_append.1 hv with hv|hv
      ·rcases List.mem_append.1 hv with hv|hv
       ·exact List.all_eq_true.1 vr v hv
       ·exact List.all_eq_true.1 vm v hv
      ·rw[List.mem_singleton.1 hv] at hp
       exact absurd p1 hp
     ·rw[Gi hr h,Xo,Xo,Zr,Hu (p1.trans p2.symm) hr,e1,e2,vr,vm]
      show ((true&&true)&&((Zo t σ||Zo u σ)&&true))=((Zo t σ&&true)||(Zo u σ&&true))
      cases Zo t σ<;>cases Zo u σ<;>rfl
theorem C3 {s:List Sp} (h:Jz 0 s):Xd s s=s:=
 Jz.uniq (Xm s s) h fun p=>by
  by_cases h0:p<0
  ·rw[(Xm s s).low p h0,h.low p h0]
  ·by_cases h1:1000000≤p
   ·rw[(Xm s s).high p h1,h.high p h1]
   ·rw[Wu _ _ p (by omega) (by omega),Bool.and_self]
theorem both_self {t:Qu} (h:Jz 0 t.set):Xg t t=t:=by unfold Xg;rw[C3 h,Bool.and_self]
theorem L7 {t:Qu} (ht:Jz 0 t.set):∀ {l:List Qu},(∀ u∈l,Jr u.path t.path=true)→Wn t l=l++[t]
 |[],_=>by rw[Wn,both_self ht];rfl
 | u::l,h=>by
   have h1:=h u (List.mem_cons_self ..)
   have n1:t.path≠u.path:=fun e=>by
    rw[e,Qs] at h1
    cases h1
   have n2:¬ Jr t.path u.path=true:=fun e=>by
    have:=Je _ _ _ h1 e;rw[Qs] at this
    cases this
   rw[Wn,if_neg n1,if_neg n2,L7 ht (fun v hv=>h v (List.mem_cons_of_mem _ hv))];rfl
theorem Pz:∀(l a:List Qu),(∀ t∈l,Jz 0 t.set)→G6 (a++l)→l.foldl (fun a t=>Wn t a) a=a++l
 |[],a,_,_=>(List.append_nil a).symm
 |t::l,a,h,hs=>by have h1:=(List.pairwise_append.1 hs).2.2;rw[List.foldl_cons,L7 (h t (List.mem_cons_self ..)) (fun u hu=>h1 u hu t (List.mem_cons_self ..)),Pz l (a++[t]) (fun u hu=>h u (List.mem_cons_of_mem _ hu)) (by rw[List.append_assoc];exact hs),List.append_assoc];rfl
theorem L8 {t:Qu}:∀ {l:List Qu},(∀ u∈l,Jz 0 u.set)→∀ u∈Wn t l,Jz 0 u.set
 |[],_,u,hu=>by rw[Wn,List.mem_singleton] at hu;rw[hu];exact Xm _ _
 | v :: l,h,u,hu=>by
   rw[Wn] at hu
   split at hu
   ·rcases List.mem_cons.1 hu with rfl|hu
    ·exact Xm _ _
    ·exact h u (List.mem_cons_of_mem _ hu)
   ·split at hu
    ·rcases List.mem_cons.1 hu with rfl|hu
     ·exact Xm _ _
     ·exact h u hu
    ·rcases List.mem_cons.1 hu with rfl|hu
     ·exact h u (List.mem_cons_self ..)
     ·exact L8 (fun w hw=>h w (List.mem_cons_of_mem _ hw)) u hu
theorem Ba:∀(l a:List Qu),(∀ u∈a,Jz 0 u.set)→∀ u∈l.foldl (fun a t=>Wn t a) a,Jz 0 u.set
 |[],_,h=>h
 |t::l,a,h=>Ba l _ (L8 h)
theorem K7 {l c:List Qu} (h:Zh l=some c):G6 c∧(∀ t∈c,Jz 0 t.set)∧∀ t∈c,Ws t=false∧Wv t=false:=by
 refine⟨Mb h,?_⟩;unfold Zh at h
 split at h
 ·cases h
 ·rename_i hn
  injection h with h;rw[←h];refine⟨fun t ht=>Ba l [] (fun _ h=>by cases h) t (List.mem_filter.1 ht).1,fun t ht=>⟨?_,by simpa using (List.mem_filter.1 ht).2⟩⟩
  cases e:Ws t with
  |false=>rfl
  |true=>exact absurd (List.any_eq_true.2 ⟨t,(List.mem_filter.1 ht).1,e⟩) hn
theorem canT_fix {c:List Qu} (h1:G6 c) (h2:∀ t∈c,Jz 0 t.set) (h3:∀ t∈c,Ws t=false∧Wv t=false):Zh c=some c:=by
 have e:Zn c=c:=Pz c [] h2 h1;unfold Zh;rw[e,if_neg,List.filter_eq_self.2 (fun t ht=>by rw[(h3 t ht).2];rfl)];intro hh;obtain⟨t,ht,h4⟩:=List.any_eq_true.1 hh;rw[(h3 t ht).1] at h4
 cases h4
theorem Og {l c:List Qu} (h:Zh l=some c):Zh c=some c:=
 have k:=K7 h
 canT_fix k.1 k.2.1 k.2.2
theorem Rm (l:List Qu):Zh (ofT l)=some (ofT l):=by
 unfold ofT
 cases h:Zh l with
 |none=>rfl
 |some c=>exact Og h
theorem Tp:∀(l a:List Qu),∀ u∈l.foldl (fun a t=>Wn t a) a,(∃ v∈a,v.path=u.path)∨∃ v∈l,v.path=u.path
 |[],a,u,hu=>.inl ⟨u,hu,rfl⟩
 | t::l,a,u,hu=>by
   rcases Tp l (Wn t a) u hu with⟨v,hv,e⟩|⟨v,hv,e⟩
   ·rcases Ej hv with h|⟨w,hw,e2⟩
    ·exact .inr ⟨t,List.mem_cons_self ..,h.symm.trans e⟩
    ·exact .inl ⟨w,hw,e2.trans e⟩
   ·exact .inr ⟨v,List.mem_cons_of_mem _ hv,e⟩
theorem Gy {l c:List Qu} (h:Zh l=some c):∀ u∈c,∃ v∈l,v.path=u.path:=by
 unfold Zh at h
 split at h
 ·cases h
 ·injection h with h
  intro u hu;rw[←h] at hu;rcases Tp l [] u (List.mem_filter.1 hu).1 with⟨v,hv,_⟩|h
  ·cases hv
  ·exact h
theorem By {l:List Qu}:∀ u∈ofT l,∃ v∈l,v.path=u.path:=by
 unfold ofT
 cases h:Zh l with
 |none=>intro u hu;cases hu
 |some c=>exact Gy h
theorem O3 {p:Qk} {σ:Vs} (hr:D8 σ) {l:List Qu} (ho:Mu p σ l):Mu p σ (ofT l):=by
 unfold ofT
 cases h:Zh l with
 |none=>exact fun t ht=>by cases ht
 |some c=>exact Md hr h ho
def Rk (σ:Vs) (p:Qk) (v:Option Int):Vs:=fun q=>if q=p then v else σ q
theorem Ur (σ:Vs) (p:Qk) (v:Option Int):Rk σ p v p=v:=if_pos rfl
theorem Ea (σ:Vs) {p q:Qk} (v:Option Int) (h:q≠p):Rk σ p v q=σ q:=if_neg h
theorem I1 {σ:Vs} {p:Qk}:Rk σ p (σ p)=σ:=by
 funext q
 unfold Rk
 split
 ·rename_i e
  rw[e]
 ·rfl
theorem Om {σ:Vs} (h:D8 σ) (p:Qk) {v:Option Int} (hv:∀ k,v=some k→0≤k∧k<1000000):D8 (Rk σ p v):=fun q k hk=>by
 unfold Rk at hk
 split at hk
 ·exact hv k hk
 ·exact h q k hk
theorem Hs {σ:Vs} {p:Qk} {v:Option Int} {t:Qu} (h:t.path≠p):Zo t (Rk σ p v)=Zo t σ:=by unfold Zo;rw[Ea σ v h]
theorem oth_upd {σ:Vs} {p:Qk} {v:Option Int} {l:List Qu}:Mu p (Rk σ p v) l↔Mu p σ l:=by
 constructor
 ·intro h t ht hp
  rw[←h t ht hp,Hs hp]
 ·intro h t ht hp
  rw[Hs hp,h t ht hp]
theorem X8 {l:List Qu} {p:Qk} (h:Qn l p=false):∀ t∈l,t.path≠p:=fun t ht e=>by
 have:Qn l p=true:=List.any_eq_true.2 ⟨t,ht,by rw[e];exact beq_self_eq_true _⟩;rw[h] at this
 cases this
theorem Ru {σ:Vs} {p:Qk} {v:Option Int} {l:List Qu} (h:Qn l p=false):Zv l (Rk σ p v)=Zv l σ:=by
 unfold Zv;rw[Bool.eq_iff_iff,List.all_eq_true,List.all_eq_true];constructor
 ·intro k t ht
  rw[←Hs (X8 h t ht)];exact k t ht
 ·intro k t ht
  rw[Hs (X8 h t ht)];exact k t ht
def Mi (x:List Qp) (roots:List Qw) (der:List (List Qu)) (i:D7) (l:List Qu):Prop:=
 (i.1=0∧∃ q,roots[i.2.2.2.1]?=some q∧l=Ux q)∨
 (i.1=1∧∃ r∈x,r.path=i.2.1∧r.place=i.2.2.1∧∃ q,r.reqs[i.2.2.2.1]?=some q∧l=G0 i.2.1 i.2.2.1 q)∨
 (i.1=2∧l=Xc i.2.1 (Qy x i.2.1))∨
 (i.1=3∧i.2.2.2.2.1<der.length∧i.2.2.2.2.2<der.length∧Vf (der.getD i.2.2.2.2.1 []) (der.getD i.2.2.2.2.2 []) i.2.1=some l)
theorem Mi.one {x:List Qp} {roots:List Qw} {der:List (List Qu)} {i:D7} {l m:List Qu} (hu:Uniq x) (h:Mi x roots der i l) (k:Mi x roots der i m):l=m:=by
 rcases h with⟨h0,q,h1,h2⟩|⟨h0,r,hr,h1,h2,q,h3,h4⟩|⟨h0,h1⟩|⟨h0,_,_,h1⟩<;>rcases k with⟨k0,q',k1,k2⟩|⟨k0,r',kr,k1,k2,q',k3,k4⟩|⟨k0,k1⟩|⟨k0,_,_,k1⟩<;>first|omega|skip
 ·rw[h1] at k1
  injection k1 with e;rw[h2,k2,e]
 ·have e:=hu r hr r' kr (h1.trans k1.symm) (h2.trans k2.symm)
  subst e;rw[h3] at k3;injection k3 with e;rw[h4,k4,e]
 ·rw[h1,k1]
 ·rw[h1] at k1
  injection k1
theorem Dj {l m:List (List Qu)} {a:Nat} (h:a<l.length):(l++m).getD a []=l.getD a []:=by rw[List.getD_eq_getElem?_getD,List.getD_eq_getElem?_getD,List.getElem?_append_left h]
theorem Mi.more {x:List Qp} {roots:List Qw} {der m:List (List Qu)} {i:D7} {l:List Qu} (h:Mi x roots der i l):Mi x roots (der++m) i l:=by
 rcases h with h|h|h|⟨h0,h1,h2,h3⟩
 ·exact .inl h
 ·exact .inr (.inl h)
 ·exact .inr (.inr (.inl h))
 ·refine .inr (.inr (.inr ⟨h0,by rw[List.length_append];omega,by rw[List.length_append];omega,?_⟩))
  rw[Dj h1,Dj h2];exact h3
structure Mv (x:List Qp) (roots:List Qw) (s:Qv):Prop where
 len:s.infs.length=s.der.length
 can:∀ l∈s.der,Zh l=some l
 say:∀(k:Nat) (i:D7),s.infs[k]?=some i→Mi x roots s.der i (s.der.getD k [])
def Lg (s s':Qv):Prop:=∃ t,s'.der=s.der++t
theorem Lg.refl (s:Qv):Lg s s:=⟨[],(List.append_nil _).symm⟩
theorem Lg.trans {a b c:Qv} (h:Lg a b) (k:Lg b c):Lg a c:=by obtain⟨t,h⟩:=h;obtain⟨u,k⟩:=k;exact⟨t++u,by rw[k,h,List.append_assoc]⟩
theorem Lg.get {s s':Qv} (h:Lg s s') {a:Nat} (ha:a<s.der.length):a<s'.der.length∧s'.der.getD a []=s.der.getD a []:=by obtain⟨t,h⟩:=h;rw[h,List.length_append];exact⟨by omega,Dj ha⟩
theorem Mv.canAt {x:List Qp} {roots:List Qw} {s:Qv} (h:Mv x roots s) {a:Nat} (ha:a<s.der.length):Zh (s.der.getD a [])=some (s.der.getD a []):=by rw[Kw _ _ ha];exact h.can _ (List.getElem_mem ha)
theorem Be {x:List Qp} {roots:List Qw} {s:Qv} {i:D7} {l:List Qu} (hu:Uniq x) (h:Mv x roots s) (hs:Mi x roots s.der i l) (hl:Zh l=some l) (hf:(add s i l).2.full=false):
 Mv x roots (add s i l).2∧Lg s (add s i l).2∧(add s i l).1<(add s i l).2.der.length∧(add s i l).2.der.getD (add s i l).1 []=l:=by
 unfold add at hf ⊢
 by_cases hm:i∈s.infs
 ·rw[if_pos hm] at hf ⊢
  have hlt:s.infs.idxOf i<s.infs.length:=List.idxOf_lt_length_of_mem hm;refine⟨h,Lg.refl s,by rw[←h.len];exact hlt,?_⟩;exact(h.say (s.infs.idxOf i) i (by rw[List.getElem?_eq_getElem hlt,List.getElem_idxOf])).one hu hs
 ·rw [if_neg hm] at hf ⊢
  by_cases hb:65536≤s.infs.length
  ·rw[if_pos hb] at hf
   cases hf
  ·rw[if_neg hb]
   have hg:(s.der++[l]).getD s.infs.length []=l :=(by rw[h.len,List.getD_eq_getElem?_getD,List.getElem?_concat_length,Option.getD_some]);refine⟨⟨?_,?_,?_⟩,⟨[l],rfl⟩,?_,hg⟩
   ·show (s.infs++[i]).length=(s.der++[l]).length
    rw[List.length_append,List.length_append,h.len];rfl
   ·intro m hm2
    rcases List.mem_append.1 hm2 with hm2|hm2
    ·exact h.can m hm2
    ·rw[List.mem_singleton.1 hm2]
     exact hl
   ·intro k j hk
    have hk:(s.infs++[i])[k]?=some j:=hk;show Mi x roots (s.der++[l]) j ((s.der++[l]).getD k [])
    by_cases hlt:k<s.infs.length
    ·rw[List.getElem?_append_left hlt] at hk
     rw[Dj (by rw[←h.len];exact hlt)];exact(h.say k j hk).more
    ·have hle:k<(s.infs++[i]).length:=(List.getElem?_eq_some_iff.1 hk).1
     rw[List.length_append,List.length_singleton] at hle;have e:k=s.infs.length :=(by omega);subst e;rw[List.getElem?_concat_length] at hk;injection hk with hk;subst hk;rw[hg];exact hs.more
   ·show s.infs.length<(s.der++[l]).length
    rw[List.length_append,List.length_singleton,h.len];exact Nat.lt_succ_self _
theorem noSrch_ok (x:List Qp) (roots:List Qw):Mv x roots Zl:=⟨rfl,fun _ h=>(by cases h),fun k i h=>by
 have h:([]:List D7)[k]?=some i:=h
 cases h⟩
def DomO (p:Qk) (dec:List Qp) (l:List Qu):Prop:=∀ t∈l,t.path≠p→done dec t.path=true
theorem Yu {p:Qk}:∀ {c:List Qu},Qn c p=true→∃ t,c.find? (fun t=>t.path==p)=some t
 |[],h=>by cases h
 | t::c,h=>by
   rw[List.find?_cons]
   cases e:t.path==p with
   |true=>exact⟨t,rfl⟩
   |false =>unfold Qn at h;rw[List.any_cons,e,Bool.false_or] at h;exact Yu (c:=c) h
theorem Kj {l:List Qu} {p:Qk} (hc:Zh l=some l) (h:Qn l p=true):∃ t r,Zj l p=some (t,r):=by obtain⟨t,ht⟩:=Yu h;refine⟨t,l.eraseP fun t=>t.path==p,?_⟩;unfold Zj;rw[hc];dsimp only;rw[ht]
theorem Yb {l r:List Qu} {t:Qu} {p:Qk} (hc:Zh l=some l) (h:Zj l p=some (t,r)):t∈l∧t.path=p∧(∀ u∈r,u∈l)∧∀ u∈r,u.path≠p:=by
 unfold Zj at h;rw[hc] at h;dsimp only at h
 cases hf:l.find? (fun t=>t.path==p) with
 |none=>rw[hf] at h;cases h
 |some w =>rw[hf] at h;injection h with h;injection h with e1 e2;subst e1 e2;exact⟨List.mem_of_find?_eq_some hf,beq_iff_eq.1 (List.find?_some (p:=fun t:Qu=>t.path==p) hf),fun u hu=>List.mem_of_mem_eraseP hu,Ez (Mb hc) w hf⟩
theorem res_dom {p:Qk} {dec:List Qp} {a b c:List Qu} (ha:Zh a=some a) (hb:Zh b=some b) (da:DomO p dec a) (db:DomO p dec b) (h:Vf a b p=some c):DomO p dec c:=by
 unfold Vf at h
 cases h1:Zj a p with
 |none=>rw[h1] at h;cases h
 | some x=>
   obtain⟨t,r⟩:=x
   cases h2:Zj b p with
   |none=>rw[h1,h2] at h;cases h
   | some y=>
     obtain⟨u,m⟩:=y;rw[h1,h2] at h;dsimp only at h;have k1:=Yb ha h1;have k2:=Yb hb h2;intro v hv hp;obtain⟨w,hw,e⟩:=Gy h v hv;rw[←e] at hp ⊢;rcases List.mem_append.1 hw with hw|hw
     ·rcases List.mem_append.1 hw with hw|hw
      ·exact da w (k1.2.2.1 w hw) hp
      ·exact db w (k2.2.2.1 w hw) hp
     ·rw[List.mem_singleton.1 hw] at hp
      exact absurd k1.2.1 hp
theorem res_some {p:Qk} {σ:Vs} (hr:D8 σ) {a b:List Qu} (ca:Zh a=some a) (cb:Zh b=some b) (ha:Mu p σ a) (hb:Mu p σ b) (pa:Qn a p=true) (pb:Qn b p=true) (hv:Zv a σ=true):∃ c,Vf a b p=some c:=by
 obtain⟨t,r,h1⟩:=Kj ca pa;obtain⟨u,m,h2⟩:=Kj cb pb;have k1:=Yb ca h1;have k2:=Yb cb h2;unfold Vf;rw[h1,h2];dsimp only
 cases hc:Zh (r++m++[Vi t u]) with
 |some c=>exact⟨c,rfl⟩
 | none=>
   exfalso;have h0:=viol_idle hr hc;have vr:Zv r σ=true:=List.all_eq_true.2 fun v hv=>ha v (k1.2.2.1 v hv) (k1.2.2.2 v hv);have vm:Zv m σ=true:=List.all_eq_true.2 fun v hv=>hb v (k2.2.2.1 v hv) (k2.2.2.2 v hv);have ht:Zo t σ=true:=List.all_eq_true.1 hv t k1.1;rw[Xo,Xo,Zr,Hu (k1.2.1.trans k2.2.1.symm) hr,vr,vm,ht] at h0
   cases h0
theorem no_term {p:Qk} {σ:Vs} {l:List Qu} (hc:Zh l=some l) (h0:Zv l (Rk σ p none)=true) (h1:∀ v,0≤v→v<1000000→Zv l (Rk σ p (some v))=true):Qn l p=false:=by
 cases hcc:Qn l p with
 |false=>rfl
 | true=>
   exfalso;obtain⟨t,ht,hp⟩:=List.any_eq_true.1 hcc;have hp:=beq_iff_eq.1 hp;have hn:=((K7 hc).2.2 t ht).2;have a1:t.abs=true :=(by have:=List.all_eq_true.1 h0 t ht;unfold Zo at this;rw[hp,Ur] at this;exact this);have a2:(Zc t.set).isEmpty=true :=(by rw[List.isEmpty_iff,K6 (Bd _)];intro v b0 b1;have:=List.all_eq_true.1 (h1 v b0 b1) t ht;unfold Zo at this;rw[hp,Ur] at this;rw[J5 _ v b0 b1,show mem t.set v=true from this];rfl);unfold Wv at hn;rw[a1,a2] at hn
   cases hn
theorem ent_of {p:Qk} {dec:List Qp} {l:List Qu} (ho:Mu p (J0 dec) l) (hd:DomO p dec l) (hc:Qn l p=false):Jf dec l=true:=by unfold Jf Zv;rw[Bool.and_eq_true,List.all_eq_true,List.all_eq_true];exact⟨fun t ht=>ho t ht (X8 hc t ht),fun t ht=>hd t ht (X8 hc t ht)⟩
structure Cov (p:Qk) (dec:List Qp) (l:List Qu):Prop where
 can:Zh l=some l
 oth:Mu p (J0 dec) l
 dom:DomO p dec l
 vio:Zv l (J0 dec)=true
structure Rsn (p:Qk) (dec:List Qp) (l:List Qu):Prop where
 can:Zh l=some l
 oth:Mu p (J0 dec) l
 dom:DomO p dec l
 con:Qn l p=true
theorem D5 {s:Qv} (i:D7) (l:List Qu) (h:s.full=true):(add s i l).2.full=true:=by
 unfold add
 split
 ·exact h
 ·split
  ·rfl
  ·exact h
theorem infer_full {s:Qv} (n:Zi) (h:s.full=true):(infer s n).2.full=true:=by
 unfold infer
 split
 ·exact D5 _ _ h
 ·exact D5 _ _ h
theorem Ye (p:Qk):∀(rs:List Nat) (a:Nat) (s:Qv),s.full=true→(learnL p rs a s).2.full=true
 |[],_,_,h=>h
 |r::rs,a,s,h=>by rw[learnL,if_pos (.inl h)];exact h
theorem learn_full (x:List Qp) (p:Qk) (n0:Zi) (rs:List Nat) {s:Qv} (h:s.full=true):(Wq x p n0 rs s).2.full=true:=by unfold Wq;exact Ye _ _ _ _ (D5 _ _ (infer_full _ h))
theorem F5 {x:List Qp} {roots:List Qw} {dec:List Qp} {p:Qk} (hu:Uniq x) (hr:D8 (J0 dec)) (hp:J0 dec p=none):
 ∀ (rs:List Nat) (a:Nat) (s:Qv),Mv x roots s→a<s.der.length→Cov p dec (s.der.getD a [])→(∀ r∈rs,r<s.der.length∧Rsn p dec (s.der.getD r []))→
   (∀ v,0≤v→v<1000000→Zv (s.der.getD a []) (Rk (J0 dec) p (some v))=true∨∃ r∈rs,Zv (s.der.getD r []) (Rk (J0 dec) p (some v))=true)→
   (learnL p rs a s).2.full=false→Mv x roots (learnL p rs a s).2∧Lg s (learnL p rs a s).2∧(learnL p rs a s).1<(learnL p rs a s).2.der.length∧Jf dec ((learnL p rs a s).2.der.getD (learnL p rs a s).1 [])=true
 | [],a,s,hk,ha,hc,_,hv,_=>by
   refine⟨hk,Lg.refl s,ha,ent_of hc.oth hc.dom (no_term hc.can (by rw[←hp,I1];exact hc.vio) fun v b0 b1=>?_)⟩;rcases hv v b0 b1 with h|⟨r,h,_⟩
   ·exact h
   ·cases h
 | r :: rs,a,s,hk,ha,hc,hrs,hv,hf=>by
   have hs:s.full=false:=by
    cases e:s.full with
    |false=>rfl
    |true=>exact absurd (Ye p _ a s e) (by rw[hf];decide)
   rw[learnL] at hf ⊢
   by_cases h0:s.full=true∨Qn (s.der.getD a []) p=false
   ·rw[if_pos h0] at hf ⊢
    rcases h0 with h0|h0
    ·rw[hs] at h0;cases h0
    ·exact⟨hk,Lg.refl s,ha,ent_of hc.oth hc.dom h0⟩
   ·rw [if_neg h0] at hf ⊢
    have hca:Qn (s.der.getD a []) p=true:=by
     cases e:Qn (s.der.getD a []) p with
     |true=>rfl
     |false=>exact absurd (.inr e) h0
    by_cases he:r=a
    ·rw[if_pos he] at hf ⊢
     refine F5 hu hr hp rs a s hk ha hc (fun r hr=>hrs r (List.mem_cons_of_mem _ hr)) (fun v b0 b1=>?_) hf;rcases hv v b0 b1 with h|⟨r',h,h2⟩
     ·exact .inl h
     ·rcases List.mem_cons.1 h with e|h
      ·rw[e,he] at h2
       exact .inl h2
      ·exact .inr ⟨r',h,h2⟩
    ·rw [if_neg he] at hf ⊢
     obtain⟨hrl,hrr⟩:=hrs r (List.mem_cons_self ..);obtain⟨c,hres⟩:=res_some hr hc.can hrr.can hc.oth hrr.oth hca hrr.con hc.vio;rw[hres] at hf ⊢;dsimp only at hf ⊢
     have hfa:(add s (3,p,0,0,a,r) c).2.full=false:=by
      cases e:(add s (3,p,0,0,a,r) c).2.full with
      |false=>rfl
      |true=>exact absurd (Ye p rs _ _ e) (by rw[hf];decide)
     have hcan:Zh c=some c:=by
      have h:=hres;unfold Vf at h
      cases h1:Zj (s.der.getD a []) p with
      |none=>rw[h1] at h;cases h
      | some y=>
        cases h2:Zj (s.der.getD r []) p with
        |none=>rw[h1,h2] at h;cases h
        |some z =>rw[h1,h2] at h;exact Og h
     obtain⟨k1,k2,k3,k4⟩:=Be (i:=(3,p,0,0,a,r)) hu hk (.inr (.inr (.inr ⟨rfl,ha,hrl,hres⟩))) hcan hfa;have hex:=L4 hr hc.oth hrr.oth hres
     obtain⟨g1,g2,g3,g4⟩:=F5 hu hr hp rs _ _ k1 k3 (by
      rw[k4]
      exact⟨hcan,hex.1,res_dom hc.can hrr.can hc.dom hrr.dom hres,by rw[hex.2,hc.vio];rfl⟩) (fun r' hr'=>by
      obtain⟨b1,b2⟩:=hrs r' (List.mem_cons_of_mem _ hr');obtain⟨b3,b4⟩:=k2.get b1
      exact⟨b3,by rw[b4];exact b2⟩) (fun v b0 b1=>by
      have hrv:D8 (Rk (J0 dec) p (some v)):=Om hr p (fun k e=>by injection e with e;omega);have hex2:=(L4 hrv (oth_upd.2 hc.oth) (oth_upd.2 hrr.oth) hres).2;rw[k4,hex2];rcases hv v b0 b1 with h|⟨r',h,h2⟩
      ·exact .inl (by rw[h];rfl)
      ·rcases List.mem_cons.1 h with e|h
       ·rw[e] at h2
        exact .inl (by rw[h2,Bool.or_true])
       ·refine .inr ⟨r',h,?_⟩
        rw[(k2.get (hrs r' (List.mem_cons_of_mem _ h)).1).2]
        exact h2) hf
     exact⟨g1,k2.trans g2,g3,g4⟩
end Go.Proofs.YtiefajiebebgoaaGreatDoor.Tm
namespace Go.Proofs.YtiefajiebebgoaaGreatDoor
theorem G4 {w:World} {g:Nat} {t:TypeId} {cs:Array Value} (h:Uc w g t cs):w.cell? ⟨g,0,none⟩=cs[0]?∧w.frozen? ⟨g,0,none⟩=false∧w.cell? ⟨g,1,none⟩=cs[1]?∧w.frozen? ⟨g,1,none⟩=false∧w.cell? ⟨g,2,none⟩=cs[2]?∧w.frozen? ⟨g,2,none⟩=false:=⟨h.cell 0,h.frozen 0,h.cell 1,h.frozen 1,h.cell 2,h.frozen 2⟩
theorem bk4 {w:World} {g:Nat} {t:TypeId} {cs:Array Value} (h:Uc w g t cs):w.cell? ⟨g,0,none⟩=cs[0]?∧w.frozen? ⟨g,0,none⟩=false∧w.cell? ⟨g,1,none⟩=cs[1]?∧w.frozen? ⟨g,1,none⟩=false∧w.cell? ⟨g,2,none⟩=cs[2]?∧w.frozen? ⟨g,2,none⟩=false∧w.cell? ⟨g,3,none⟩=cs[3]?∧w.frozen? ⟨g,3,none⟩=false:=⟨h.cell 0,h.frozen 0,h.cell 1,h.frozen 1,h.cell 2,h.frozen 2,h.cell 3,h.frozen 3⟩
end Go.Proofs.YtiefajiebebgoaaGreatDoor
namespace Go.Proofs.YtiefajiebebgoaaGreatDoor.Tm
set_option linter.unusedVariables false
theorem R6 {x:List Qp} {rec:Qv→List Qp→Bg} {dec:List Qp} {path:Qk} {ns:List Zi} {n0:Zi} {b:Nat}:∀(cs:List Qp) (s:Qv) (rs:List Nat) (sk:List Ol),(∀ c∈cs,∀ s2 d t k s3,rec s2 (dec++[c])=(some (d,t),k,s3)→t.length≤b)→
 ∀ d t k s3,J7 x rec dec path ns n0 cs s rs sk=(some (d,t),k,s3)→t.length≤sk.length+cs.length+b
 | [],s,rs,sk,_,d,t,k,s3,e=>by
   rw[J7] at e
   cases e
 | c :: cs,s,rs,sk,h,d,t,k,s3,e=>by
   have ih:=fun s rs (sk':List Ol) (hl:sk'.length≤sk.length+1) (e:J7 x rec dec path ns n0 cs s rs sk'=(some (d,t),k,s3))=>Nat.le_trans (R6 cs s rs sk' (fun c hc=>h c (List.mem_cons_of_mem _ hc)) d t k s3 e) (show sk'.length+cs.length+b≤sk.length+(c::cs).length+b by rw[List.length_cons];omega);have hs:∀ r,(sk++[(path,c.place,r)]).length≤sk.length+1:=fun r=>by rw[List.length_append];exact Nat.le_refl _
   rw[J7] at e
   split at e
   ·cases e
   ·split at e
    ·exact ih _ _ sk (Nat.le_succ _) e
    ·split at e
     ·split at e
      ·cases e
      ·exact ih _ _ _ (hs _) e
     ·split at e
      ·split at e
       ·cases e
       ·exact ih _ _ _ (hs _) e
      ·split at e
       ·rename_i d' t' k' s' he
        have hb:=h c (List.mem_cons_self ..) _ _ _ _ _ he;injection e with e1 e2;injection e1 with e1;injection e1 with e1 e3;rw[←e3,List.length_append,List.length_cons];omega
       ·split at e
        ·cases e
        ·split at e
         ·cases e
         ·exact ih _ _ _ (hs _) e
theorem Nq {x:List Qp} (roots:List Qw):∀(f:Nat) (s:Qv) (dec:List Qp) d t k s3,Za x roots f s dec=(some (d,t),k,s3)→t.length≤Xb x dec
 | 0,s,dec,d,t,k,s3,e=>by
   rw[Za] at e
   cases e
 | f + 1,s,dec,d,t,k,s3,e=>by
   rw[Za] at e
   cases hn:(next roots dec).2 with
   |nil =>rw[hn] at e;have e:((some (dec,[]),0,s):Bg)=_:=e;injection e with e1 e2;injection e1 with e1;injection e1 with e1 e3;rw[←e3];exact Nat.zero_le _
   | cons n0 ns=>
     rw[hn] at e;have hp:done dec (next roots dec).1=false :=(by obtain⟨-,h1,h2⟩:=Yc roots dec n0 (by rw[hn];exact List.mem_cons_self ..);rw[←h1];exact h2);have ho:=fun (c:Qp) (hc:c.path=(next roots dec).1)=>Vg (x:=x) (dec:=dec) (c:=c) hc hp
     have:=R6 (b:=Xb x dec-(Zp x (next roots dec).1).length) (Zp x (next roots dec).1) s [] [] (fun c hc s2 d t k s3 e=>by
      have h1:=Nq roots f s2 (dec++[c]) d t k s3 e;have h2:=ho c (Zt.1 hc).2.1
      omega) d t k s3 e
     have hc:=cands_le (x:=x) hp;simp at this;omega
end Go.Proofs.YtiefajiebebgoaaGreatDoor.Tm
namespace Go.Proofs
open Go.Shelf
def Tryz.delI_ren:Go.Shelf.Ren:=⟨fun|10=>34|6=>64|n=>n,fun|22=>54|23=>3|25=>87|3=>3|4=>4|0=>0|n=>n,fun|n=>n⟩
theorem Tryz.delI:Go.Proofs.SlLaysH.n10 prog Tryz.delI_ren:={
 mixed:=by kernel_rfl
 f6:=⟨Tryz.f64.name,by decide,func64.trans (congrArg some (by kernel_rfl))⟩
 f10:=⟨Tryz.f34.name,by decide,func34.trans (congrArg some (by kernel_rfl))⟩
 t0:=underlying0
 a0:=Tryz.isAgg0
 z0:=Tryz.sizeOf0
 v0:=Tryz.zeroValue0
 t3:=underlying3
 a3:=Tryz.isAgg3
 z3:=Tryz.sizeOf3
 v3:=Tryz.zeroValue3
 t4:=underlying4
 a4:=Tryz.isAgg4
 z4:=Tryz.sizeOf4
 v4:=Tryz.zeroValue4
 t22:=underlying54
 a22:=Tryz.isAgg54
 z22:=Tryz.sizeOf54
 v22:=Tryz.zeroValue54
 a23:=Tryz.isAgg3
 z23:=Tryz.sizeOf3
 t25:=underlying87
 a25:=Tryz.isAgg87
 z25:=Tryz.sizeOf87
 v25:=Tryz.zeroValue87 }
def Tryz.compS_ren:Go.Shelf.Ren:=⟨fun|43=>220|n=>n,fun|22=>134|23=>9|3=>3|4=>4|0=>0|n=>n,fun|n=>n⟩
theorem Tryz.compS:Go.Proofs.SlLaysE.n43 prog Tryz.compS_ren:={
 mixed:=by kernel_rfl
 f43:=⟨Tryz.f220.name,by decide,func220.trans (congrArg some (by kernel_rfl))⟩
 t0:=underlying0
 a0:=Tryz.isAgg0
 z0:=Tryz.sizeOf0
 v0:=Tryz.zeroValue0
 t3:=underlying3
 a3:=Tryz.isAgg3
 z3:=Tryz.sizeOf3
 v3:=Tryz.zeroValue3
 t4:=underlying4
 a4:=Tryz.isAgg4
 z4:=Tryz.sizeOf4
 v4:=Tryz.zeroValue4
 t22:=underlying134
 a22:=Tryz.isAgg134
 z22:=Tryz.sizeOf134
 v22:=Tryz.zeroValue134
 a23:=Tryz.isAgg9
 z23:=Tryz.sizeOf9 }
end Go.Proofs
