/- Lemmas and contracts on what the walks need, several small texts in one. Conditions: as each theorem states. -/
import Derived.Test.YtiefajiebebgoaaGreatDoorQHd
import Derived.Test.YtiefajiebebgoaaGreatDoorQUcF
import Derived.Test.YtiefajiebebgoaaGreatDoorQPb
import Derived.Shelf.SlSortCmp.NoneTotal
import Derived.Test.YtiefajiebebgoaaGreatDoorQPa
import Derived.Test.YtiefajiebebgoaaGreatDoorQPg
set_option maxRecDepth 20000
set_option maxHeartbeats 16000000
open Go.Proofs.Tryz
namespace Go.Proofs.YtiefajiebebgoaaGreatDoor
set_option linter.unusedVariables false
open Go.RowKit Go.Shelf Go.Sort
attribute [local go_sem] Oper.semAt_some
def cfSe (x y:Zy):Int:=E5 x.1 y.1
theorem ltSe (x y:Zy):ltOf cfSe x y=Tm.Jr x.1 y.1:=by unfold ltOf cfSe;rw[Bool.eq_iff_iff,decide_eq_true_iff,cmpS_neg]
theorem swoSe:SWO (ltOf cfSe) where
 irrefl x:=by rw[ltSe,Tm.Qs]
 trans x y z h1 h2:=by rw[ltSe] at *;exact Tm.Je _ _ _ h1 h2
 ntrans x y z h1 h2:=by rw[ltSe] at *;exact Tc h1 h2
theorem Oq (x y:Zy) (W:World):Calls prog 60 #[.agg #[.string ⟨x.1.toArray⟩,.int .i64 x.2.1,.int .i64 x.2.2.1,.int .i64 x.2.2.2],.agg #[.string ⟨y.1.toArray⟩,.int .i64 y.2.1,.int .i64 y.2.2.1,.int .i64 y.2.2.2]] W fun e w'=>e=.returned (.int .i64 (cfSe x y))∧∃ q os',w'=grow (W.drewN q) os':=by obtain⟨p,a1,a2,a3⟩:=x;obtain⟨q,b1,b2,b3⟩:=y;unfold cfSe;dsimp only;have k:=fun W=>Nl p q W;go_enter func60,ntmps60;go_wp2_with fail;refine(k _).mono ?_;rintro e w' ⟨rfl,rfl⟩;go_wp2;go_ret;exact⟨rfl,0,_,by rw[alloc_eq_grow,alloc_eq_grow,grow_grow];rfl⟩
instance : Inhabited Zy:=⟨([],0,0,0)⟩
theorem Ah {lo:Nat} {w0 w:World} {Rs:List Q3} {A:Option Addr} {n c:Nat} {l:List Zy} (h:St lo w0 w (Qh 38 4 (.slice A n c) n (l.flatMap Wm)::Rs)) (hl:l.length=n) (hm:n<4611686018427387904):
 Calls prog 59 #[.slice A n c,.func (.func 60) #[] #[]] w fun e w'=>e=.returned (.tuple #[])∧∃ l':List Zy,l'.Perm l∧l'.Pairwise (fun x y=>Tm.Jr y.1 x.1=false)∧St lo w0 w' (Qh 38 4 (.slice A n c) n (l'.flatMap Wm)::Rs):=by
 rcases Nat.eq_zero_or_pos n with h0|h0
 ·subst h0
  have e0:=List.eq_nil_of_length_eq_zero hl;subst e0;refine(AnyF.slices_SortFunc_none Tryz.sortSe A c _ w).mono ?_;rintro e w' ⟨rfl,hw⟩;refine⟨rfl,[],List.Perm.refl _,List.Pairwise.nil,?_⟩;subst hw;exact h
 ·obtain⟨g,c',e0,hg,h1,h2⟩:=Zx h.own h0
  injection e0 with e1 _ e3;subst e1 e3;obtain⟨d,hd⟩:∃ d:Array Zy,d.toList=l:=⟨l.toArray,by simp⟩;have hds:d.size=n:=by rw[←hl,←hd];simp
  have hH:HoldsK Wm 4 w g 0 d:=by unfold HoldsK;rw[U3 (enc:=Wm) (k:=4) (fun _=>rfl),hd];exact Vh (by simpa using h.own)
  have k:=AnyQ.slices_SortFunc Tryz.sortSe 4 Tryz.isAgg38 Tryz.sizeOf38 Wm (fun _=>rfl) (fun x v hv=>Bp [x] v (by simpa using hv)) cfSe swoSe 60 #[] g 0 c d w (enters_of func60 (by kernel_rfl) rfl) (fun _ _ _ _ x y=>Oq x y _) hH hg (by omega);rw[hds] at k
  change Calls prog 59 _ _ _ at k
  refine k.mono ?_;rintro e w' ⟨rfl,d',m,os,hp,hs,rfl⟩;obtain⟨p1,p2⟩:=O0 (d:=d) (d':=d') (by rw[hds];exact hp);rw[hds] at p2;refine⟨rfl,d'.toList,?_,?_,?_⟩
  ·rw[←hd]
   exact p1
  ·refine List.Pairwise.imp (fun {x y} hxy=>?_) (Eh p2 hs)
   rw[ltSe] at hxy;exact hxy
  ·exact h.sorted (enc:=Wm) (fun _=>rfl) p2
open Go.RowKit Go.Shelf
theorem Qm.refl' (F:Nat→Prop) (w:World):Qm F w w:=fun k _ hl=>⟨hl,rfl⟩
theorem Qm.trans' {F:Nat→Prop} {u v w:World} (h:Qm F u v) (k:Qm F v w):Qm F u w:=fun i hi hl=>⟨(k i hi (h i hi hl).1).1,(k i hi (h i hi hl).1).2.trans (h i hi hl).2⟩
def Hb (F:Nat→Prop) (wS:World):Q3 where
 P w G:=G=F∧Qm F wS w∧∀ k,F k→k<w.heap.size
 lt h k hk:=by obtain⟨rfl,h1,h2⟩:=h;exact h2 k hk
 mod h hm hG:=by obtain⟨rfl,h1,h2⟩:=h;exact⟨rfl,h1.trans' (Qm.of_mod hm hG),fun k hk=>Nat.lt_of_lt_of_le (h2 k hk) hm.size⟩
theorem St.freeze {lo:Nat} {w0 w:World} {R:Q3} {Rs:List Q3} (h:St lo w0 w (R::Rs)):∃ F,R.P w F∧(∀ k,F k→lo≤k)∧St lo w0 w (Hb F w::Rs):=by obtain⟨F,h1,h2,h3⟩:=h.open;exact⟨F,h1,h2,h3 (F':=F) (Hb F w) (U9.refl F w) ⟨rfl,Qm.refl' F w,R.lt h1⟩ fun k hk=>.inl hk⟩
theorem keepS {lo:Nat} {w0 wS:World} {F G:Nat→Prop} (hb:Below lo w0 wS) (hG:∀ k,G k→k<lo):Nj lo w0 wS (fun k=>F k∨G k) (Hb F wS):=fun w Rs h=>by
 obtain⟨F',⟨-,h1,-⟩,-,-⟩:=h.open;intro k hk hl;rcases hk with hk|hk
 ·exact h1 k hk hl
 ·have hk':=hG k hk
  exact⟨Nat.lt_of_lt_of_le hk' h.size,(h.below.block k hk').trans (hb.block k hk').symm⟩
theorem Zz.mem {w:World} {R:Q3}:∀ {Rs:List Q3} {U:Nat→Prop},Zz w Rs U→R∈Rs→∃ F,R.P w F∧∀ k,F k→U k
 | S::Rs,U,⟨F,V,h1,h2,h3,h4⟩,h=>by
   rcases List.mem_cons.1 h with rfl|h
   ·exact⟨F,h1,fun k hk=>(h3 k hk).1⟩
   ·obtain⟨G,g1,g2⟩:=Zz.mem h2 h
    exact⟨G,g1,fun k hk=>h4 k (g2 k hk)⟩
theorem own_rd {w:World} {F:Nat→Prop} {e:TypeId} {size n c:Nat} {A:Option Addr} {xs:List Value} (h:(Qh e size (.slice A n c) n xs).P w F):Z9 w F A xs:=by
 obtain⟨⟨hl,h1⟩,h2,h3⟩:=h;rcases h1 with⟨h1,rfl⟩|⟨g,cap,cur,h1,-,hg,h4,h5,h6,h7⟩
 ·exact .inl (List.eq_nil_of_length_eq_zero (by rw[hl,Nat.zero_mul]))
 ·obtain⟨rfl,-,rfl⟩:=Value.slice.inj h1
  refine .inr ⟨g,0,rfl,h2 g rfl,(Array.getElem?_eq_some_iff.1 hg).1,fun j hj=>?_⟩;obtain⟨u,hu⟩:∃ u,xs[j]=u:=⟨_,rfl⟩;have hj':xs[j]?=some u:=by rw[List.getElem?_eq_getElem hj,hu]
  rw[hu,Nat.zero_add,(Z8 hg j).1];rw[←h7,List.getElem?_take] at hj'
  split at hj'
  ·rw[←Array.getElem?_toList]
   exact hj'
  ·cases hj'
def Ss (X:List Qi) (roots:List Tm.Qw):List Tm.Qk:=(X.flatMap fun r=>r.path::r.reqs.map (·.path))++roots.map (·.path)
theorem Gb {l:List Tm.Qw} (h:U5 l=0):l.length≤16:=by
 unfold U5 at h
 split at h
 ·cases h
 ·omega
theorem Pc {roots:List Tm.Qw} (hr:roots.length≤16):∀ X:List Qi,(∀ r∈X,r.reqs.length≤16)→(Ss X roots).length≤X.length*17+16
 |[],_=>by unfold Ss;simp;omega
 |r::X,h=>by have ih:=Pc hr X fun s hs=>h s (List.mem_cons_of_mem _ hs);have h0:=h r (List.mem_cons_self ..);unfold Ss at ih ⊢;simp only[List.flatMap_cons,List.length_append,List.length_cons,List.length_map] at ih ⊢;omega
theorem Xp {X:List Qi} {roots:List Tm.Qw} (h:Wr X roots=true):Gc X=0∧U5 roots=0:=by unfold Wr at h;simp only[Bool.and_eq_true,decide_eq_true_eq] at h;exact h
theorem L5 {w:World} {F G:Nat→Prop} {v:Value} {L:List Tm.Qw} (h:Qt w F v L) (hF:∀ k,F k→G k):Qt w G v L:=by obtain⟨A,c,M,e0,e1,h1,h2,h3,h4⟩:=h;exact⟨A,c,M,e0,e1,h1,h2,h3.mono hF,fun m hm=>(h4 m hm).mono hF⟩
theorem solAt_of {w:World} {F G:Nat→Prop} {X:List Qi} {roots:List Tm.Qw} {v rv:Value} {b1 b2 n1 n2:Nat} {M1 MA:Lit→Option Value} {R:List Ul} {L:List (Tm.Qk×Value)} (h:Zz w (Zw 9 b1 n1 M1::Zw 9 b2 n2 MA::avR (X.map Qf) L::R.map Vm) F) (hM:Xh M1 R) (hX:Ww (fun r=>!r.yank) X X.length R) (hA:AvM MA L) (hk:∀ p,(M1 (.string p)).isSome=true→p∈L.map Prod.fst)
 (hx:Qx w G v X) (hr:Qt w G rv roots) (hs:Wp X) (hs2:∀ q∈roots,Zu q) (hv:Wr X roots=true):
 Ok w (fun k=>F k∨G k) X roots (Ss X roots) rv b1 n1 M1 b2 n2 MA:=by
 obtain⟨F1,V1,⟨m1,e1⟩,hV1,d1,s1⟩:=h;obtain⟨F2,V2,⟨m2,e2⟩,hV2,d2,s2⟩:=hV1;obtain⟨F3,V3,⟨m3,-⟩,hV3,d3,s3⟩:=hV2;obtain⟨v1,v2⟩:=Xp hv;obtain⟨-,-,hc⟩:=Vj v1;have hR:∀ r∈X,r.reqs.length≤16:=fun r hr=>by obtain⟨m,-,-,-,h0⟩:=Wl (hc r hr);exact Gb h0
 have hX256:X.length≤256:=(Vj v1).2.1
 have hrow:∀ p,∃ A c,(M1 (.string p)).getD (.slice none 0 0)=.slice A (Vb X p).length c∧(Vb X p).length≤c∧c≤maxLen∧Z9 w (fun k=>F k∨G k) A ((Vb X p).flatMap Gf):=fun p=>by
  have e:=hX p;rw[List.take_length] at e;rw[hM.2 p];unfold Hy at e
  cases hf:R.find? (fun e=>decide (e.path=p)) with
  |none =>rw[hf] at e;have e:Vb X p=[]:=e.symm;rw[e];exact⟨none,0,rfl,Nat.le_refl _,by decide,.inl rfl⟩
  |some r =>rw[hf] at e;have e:r.xs=Vb X p:=e;obtain⟨F4,g1,g2⟩:=Zz.mem hV3 (List.mem_map.2 ⟨r,List.mem_of_find?_eq_some hf,rfl⟩);obtain⟨A,c,ev,h1,h2⟩:=Q4 g1.1;have g3:(Qh 175 10 (.slice A r.xs.length c) r.xs.length (r.xs.flatMap Gf)).P w F4 :=(by rw[←ev];exact g1);rw[e] at ev h1 g3;exact⟨A,c,ev,h1,h2,(own_rd g3).mono fun k hk=>.inl (s1 k (s2 k (s3 k (g2 k hk))))⟩
 refine⟨.inl (d1 b1 (by rw[e1])).1,m1,hrow,.inl (s1 _ (d2 b2 (by rw[e2])).1),m2,fun p=>?_,L5 hr fun k hk=>.inr hk,fun r hr'=>by
  obtain⟨A,c,-,-,-,-,hq⟩:=hx
  exact L5 (hq r hr') fun k hk=>.inr hk,fun r hr'=>⟨by have:=hR r hr';omega,(hs r hr').reqs,(hs r hr').path⟩,hs2,Dv v1,⟨?_,?_⟩,fun r hr'=>⟨?_,fun q hq=>?_⟩,fun q hq=>?_,by omega,by have:=Gb v2;omega⟩
 ·rw [hA p]
  cases hf:L.find? (fun e=>decide (e.1=p)) with
  | none=>
    have hn:M1 (.string p)=none:=by
     cases hM1:M1 (.string p) with
     |none=>rfl
     |some u =>obtain⟨e,he,rfl⟩:=List.mem_map.1 (hk p (by rw[hM1];rfl));have:=List.find?_eq_none.1 hf e he;simp at this
    have hc0:Vb X p=[] :=(by obtain⟨A,c,e,-⟩:=hrow p;rw[hn] at e;obtain⟨-,e,-⟩:=Value.slice.inj e;exact List.eq_nil_of_length_eq_zero e.symm);have ha:Tm.Qy (X.map Qf) p=[] :=(by unfold Tm.Qy;rw[←Up,hc0];rfl);rw[ha];exact⟨none,0,0,rfl,⟨none,0,rfl,Nat.le_refl _,by decide,.inl rfl⟩,by decide⟩
  |some e =>have he:=List.mem_of_find?_eq_some hf;have hp:e.1=p :=(by have:=List.find?_some hf;simpa using this);have hs:=m3 e he;rw[hp] at hs;obtain⟨A,n,c,ev⟩:=hs.shape;rw[ev] at hs;have hl:=Tm.Nb ((Tm.Zp (X.map Qf) p).map fun r=>(r.place,r.place+1));exact⟨A,n,c,ev,hs.mono fun k hk=>.inl (s1 k (s2 k (d3 k hk).1)),by show (Tm.Q9 _).length≤_;omega⟩
 ·have:=Pc (Gb v2) X hR
  omega
 ·intro p hp
  rcases List.mem_append.1 hp with hp|hp
  ·obtain⟨r,hr',hp⟩:=List.mem_flatMap.1 hp
   rcases List.mem_cons.1 hp with rfl|hp
   ·exact(hs r hr').path
   ·obtain⟨q,hq,rfl⟩:=List.mem_map.1 hp
    exact((hs r hr').reqs q hq).2
  ·obtain⟨q,hq,rfl⟩:=List.mem_map.1 hp
   exact(hs2 q hq).2
 ·exact List.mem_append.2 (.inl (List.mem_flatMap.2 ⟨r,hr',List.mem_cons_self ..⟩))
 ·exact List.mem_append.2 (.inl (List.mem_flatMap.2 ⟨r,hr',List.mem_cons_of_mem _ (List.mem_map.2 ⟨q,hq,rfl⟩)⟩))
 ·exact List.mem_append.2 (.inr (List.mem_map.2 ⟨q,hq,rfl⟩))
theorem Sj:(prog.info? 75).map (·.size)=some 4:=by kernel_rfl
def K8 (X:List Qi) (roots:List Tm.Qw) (w:World) (e:Ending) (w':World):Prop:=
 match Tm.Za (X.map Qf) roots 17 Tm.Zl [] with
 |(some (d,t),_,S)=>∃(sA:Option Addr) (sC:Nat) (jA:Option Addr) (jC:Nat) (kA:Option Addr) (kC:Nat) (xs:List Value) (L:List Zy) (D:List Qi),e=.returned (.tuple #[.agg #[.bool true,.slice sA L.length sC,.slice jA S.infs.length jC,.slice kA t.length kC],.int .i64 0])∧
     D.map Qf=d∧(∀ r∈D,r∈X)∧L.Perm (D.map Zg)∧L.Pairwise (fun x y=>Tm.Jr y.1 x.1=false)∧L.length≤sC∧sC≤maxLen∧S.infs.length≤jC∧jC≤maxLen∧S.infs.length≤65536∧(∀ i∈S.infs,Vv i)∧xs.length=t.length*3∧t.length≤kC∧kC≤maxLen∧
     St w.heap.size w w' [Xl sA (L.flatMap Wm),Xl jA (S.infs.flatMap Xj),Xl kA xs]
 |(none,last,S)=>∃(jA:Option Addr) (jC:Nat),e=.returned (.tuple #[.agg #[.bool false,.slice none 0 0,.slice jA (last+1) jC,.slice none 0 0],.int .i64 0])∧last<S.infs.length∧S.infs.length≤65536∧last+1≤jC∧jC≤maxLen∧(∀ i∈S.infs,Vv i)∧St w.heap.size w w' [Xl jA (S.infs.flatMap Xj)]
theorem bk4f {w:World} {g:Nat} {t:TypeId} {cs:Array Value} (h:Uc w g t cs):(w.cell? ⟨g,0,none⟩=cs[0]?∧w.frozen? ⟨g,0,none⟩=false)∧(w.cell? ⟨g,1,none⟩=cs[1]?∧w.frozen? ⟨g,1,none⟩=false)∧(w.cell? ⟨g,2,none⟩=cs[2]?∧w.frozen? ⟨g,2,none⟩=false)∧(w.cell? ⟨g,3,none⟩=cs[3]?∧w.frozen? ⟨g,3,none⟩=false):=⟨⟨h.cell 0,h.frozen 0⟩,⟨h.cell 1,h.frozen 1⟩,⟨h.cell 2,h.frozen 2⟩,h.cell 3,h.frozen 3⟩
theorem Ew:∀ S:List Tm.D7,(S.flatMap Xj).length=S.length*6
 |[]=>rfl
 |r::X=>by rw[List.flatMap_cons,List.length_append,Ew X,List.length_cons,Nat.succ_mul,Nat.add_comm];rfl
theorem Ap:∀(us:List Value) (j:Nat) (u:Value),us[j]?=some u→skN (us.take (j+1))=skN (us.take j)+(match u with|.slice _ n _=>n|_=>0)
 | v::us,0,u,h=>by
   obtain rfl:=Option.some.inj h;show _+0=0+_;rw[Nat.add_zero,Nat.zero_add]
   cases v<;>rfl
 |v::us,j+1,u,h=>by have ih:=Ap us j u h;show _+skN (us.take (j+1))=_+skN (us.take j)+_;rw[ih,Nat.add_assoc]
theorem skN_le:∀(us:List Value) (j:Nat),skN (us.take j)≤skN us
 |[],j=>by rw[List.take_nil];exact Nat.le_refl _
 |v::us,0=>Nat.zero_le _
 |v::us,j+1=>Nat.add_le_add_left (skN_le us j) _
theorem Ya (X:List Qi) (roots:List Tm.Qw) (v rv:Value) (iA:Option Addr) (iN iC:Nat) (F G:Nat→Prop) (w:World) (h:Qx w F v X) (h2:Qt w G rv roots) (hs:Wp X) (hs2:∀ q∈roots,Zu q) (h16:X.length≤16) (hv:Wr X roots=true) (hg:Ji w):
 Calls prog 31 #[.agg #[v,.slice iA iN iC],rv] w (K8 X roots w):=by
 obtain⟨res,hres⟩:∃ r,Tm.Za (X.map Qf) roots 17 Tm.Zl []=r:=⟨_,rfl⟩;have hfull:=Tm.Sy (x:=X.map Qf) roots (by rw[List.length_map];exact h16) 17;have hfu:Tm.Xb (X.map Qf) []<17:=by have:=Tm.Su (X.map Qf) [];rw[List.length_map] at this;omega
 have hskp:=Tm.Nq (x:=X.map Qf) roots 17 Tm.Zl [];have hfnd:=Tm.Xr (x:=X.map Qf) roots 17 Tm.Zl [];rw[hres] at hfull hskp hfnd
 have hD16:∀ d t k s',res=(some (d,t),k,s')→d.length≤16:=fun d t k s' e=>by
  obtain⟨⟨h1,h2,-⟩,-⟩:=hfnd d t k s' ⟨fun c hc=>(by cases hc),List.Pairwise.nil,fun n hn c hc=>(by cases hc)⟩ e;have:=Gk (d.map (·.path)) ((X.map Qf).map (·.path)) (List.pairwise_map.2 h2) fun a ha=>by obtain⟨c,hc,rfl⟩:=List.mem_map.1 ha;exact List.mem_map.2 ⟨c,(h1 c hc).1,rfl⟩
  simp only[List.length_map] at this;omega
 have HD16:=Kd hD16;clear hfnd hD16;obtain⟨A,c,rfl,-,-,-,-⟩:=id h;obtain⟨rA,rC,Mr,eMr,rfl,-,-,-,-⟩:=id h2;obtain⟨rN,hrN⟩:∃ n,Mr.length=n:=⟨_,rfl⟩;rw[hrN] at h2 ⊢;have y0:=((St.nil w).alloc 25 #[.slice A X.length c,.slice iA iN iC]).alloc 75 #[.bool false,.slice none 0 0,.slice none 0 0,.slice none 0 0];rw[World.size_alloc] at y0;obtain⟨W0,hW0⟩:∃ W,(w.alloc (.cells #[.slice A X.length c,.slice iA iN iC] 25)).alloc (.cells #[.bool false,.slice none 0 0,.slice none 0 0,.slice none 0 0] 75)=W:=⟨_,rfl⟩;rw[hW0] at y0;have kv:=I7 X roots _ (.slice iA iN iC) _ F G W0 (h.below y0.below) (h2.below y0.below) hs hs2 rfl (hg.below y0.below);rw[hv] at kv;have kn:=fun W (hW:Below w.heap.size w W)=>Sx X _ iA iN iC rA rN rC F W (h.below hW) hs (by omega) (hg.below hW) (Xp hv).1;have hfin:∀ W (hW:Below w.heap.size w W) (F1:Nat→Prop) b1 b2 n1 n2 M1 M2 R L,Zz W (Zw 9 b1 n1 M1::Zw 9 b2 n2 M2::avR (X.map Qf) L::R.map Vm) F1→Xh M1 R→Ww (fun r=>!r.yank) X X.length R→AvM M2 L→(∀ p,(M1 (.string p)).isSome=true→p∈L.map Prod.fst)→Ok W (fun k=>F1 k∨((F k∨G k)∧k<w.heap.size)) X roots (Ss X roots) (.slice rA rN rC) b1 n1 M1 b2 n2 M2:=fun W hW F1 b1 b2 n1 n2 M1 M2 R L hh hM hX hA hk =>solAt_of hh hM hX hA hk ((h.ltR.below hW).mono fun k hk=>⟨.inl hk.1,hk.2⟩) ((h2.ltR.below hW).mono fun k hk=>⟨.inr hk.1,hk.2⟩) hs hs2 hv;have HS:=Kd6 hfin hfu hskp hfull hres kn;obtain⟨N,hN⟩:∃ N,X.length=N:=⟨_,rfl⟩;rw[hN] at y0 kv hW0 ⊢;have x0:=(y0.pk [1]).blk.cell 0;have x1:=(y0.pk [1]).blk.cell 1;have Y0:=Kd y0;have HN:=Kd hN;clear h h2 hs hs2 h16 hv hg hfull hfu hskp hres eMr hrN kn hfin hN y0;go_enter func31,ntmps31;go_wp2_with fail;refine kv.mono ?_;rintro e w1 ⟨rfl,z1⟩;have y1:=Y0.out.under z1;have x0:=(y1.pk [1]).blk.cell 0;have x1:=(y1.pk [1]).blk.cell 1;have kn:=HS.out.2.2.2.2.2 w1 y1.below;rw[HN.out] at kn;have Y1:=Kd y1;clear kv z1 y1 Y0 hW0;go_wp2_with fail;refine kn.mono ?_;rintro e w2 ⟨g,b1,b2,b3,n1,n2,M1,MA,R,L,rfl,hM1,hRX,hAv,hkeys,y2⟩;have y3:=(Y1.out.graft y2).permR List.perm_append_comm;have y4:St w.heap.size w w2 ([Qa g 121 #[.slice rA rN rC,.map (some b1),.map (some b2),.slice none 0 0,.slice none 0 0,.map (some b3),.bool false,.slice none 0 0,.slice none 0 0,.slice none 0 0],Zw 152 b3 0 (fun _=>none),Qa (w.heap.size+1) 75 #[.bool false,.slice none 0 0,.slice none 0 0,.slice none 0 0],Qa w.heap.size 25 #[.slice A N c,.slice iA iN iC]]++(Zw 9 b1 n1 M1::Zw 9 b2 n2 MA::avR (X.map Qf) L::R.map Vm)):=(y3.front 5 (by simp)).front 3 (by simp);obtain⟨F1,hP,hF1,y5⟩:=((y4.permR List.perm_append_comm).group).freeze;have hSol:=HS.out.1 w2 y5.below F1 b1 b2 n1 n2 M1 MA R L hP.1 hM1 hRX hAv hkeys;have y6:St w.heap.size w w2 (Qa (w.heap.size+1) 75 #[.bool false,.slice none 0 0,.slice none 0 0,.slice none 0 0]::Qa w.heap.size 25 #[.slice A N c,.slice iA iN iC]::Hb F1 w2::[Qa g 121 #[.slice rA rN rC,.map (some b1),.map (some b2),.slice none 0 0,.slice none 0 0,.map (some b3),.bool false,.slice none 0 0,.slice none 0 0,.slice none 0 0],Zw 152 b3 0 (fun _=>none)]):=y5.pk [3,4,0,1,2];have y7:=(St.group (Ps:=[Qa (w.heap.size+1) 75 #[.bool false,.slice none 0 0,.slice none 0 0,.slice none 0 0],Qa w.heap.size 25 #[.slice A N c,.slice iA iN iC],Hb F1 w2]) y6).new_own (e:=49) (size:=1) (v:=.slice none 0 0) (n:=0) (xs:=[]) (Below.refl _ _) ⟨by rw[Nat.zero_mul];rfl,.inl ⟨rfl,rfl⟩⟩;have y8:=(y7.new_own (e:=192) (size:=1) (v:=.slice none 0 0) (n:=0) (xs:=[]) (Below.refl _ _) ⟨by rw[Nat.zero_mul];rfl,.inl ⟨rfl,rfl⟩⟩).new_own (e:=152) (size:=6) (v:=.slice none 0 0) (n:=0) (xs:=[]) (Below.refl _ _) ⟨by rw[Nat.zero_mul];rfl,.inl ⟨rfl,rfl⟩⟩;have y9:St w.heap.size w w2 (Yy [] []::V8 (.slice none 0 0) []::Xy (.slice none 0 0) []::_):=((y8.new (R:=Xy (.slice none 0 0) []) (F:=fun _=>False) (Below.refl _ _) ⟨⟨none,0,rfl,Nat.le_refl _,by decide,.inl rfl⟩,fun k hk=>hk.elim⟩ (fun k hk=>hk.elim)).new (R:=V8 (.slice none 0 0) []) (F:=fun _=>False) (Below.refl _ _) ⟨Vd.nil _ _,fun k hk=>hk.elim⟩ (fun k hk=>hk.elim)).new (R:=Yy [] []) (F:=fun _=>False) (Below.refl _ _) ⟨⟨rfl,fun i v l h=>by cases h⟩,fun k hk=>hk.elim⟩ (fun k hk=>hk.elim);have hst:St w.heap.size w w2 (Z5 g ⟨.slice rA rN rC,.map (some b1),.map (some b2),b3,none,0,none,0,[],.slice none 0 0,.slice none 0 0,.slice none 0 0⟩ (fun _=>none) Tm.Zl++O8 ⟨.slice rA rN rC,.map (some b1),.map (some b2),b3,none,0,none,0,[],.slice none 0 0,.slice none 0 0,.slice none 0 0⟩ [] 0 [] (Zm [Qa (w.heap.size+1) 75 #[.bool false,.slice none 0 0,.slice none 0 0,.slice none 0 0],Qa w.heap.size 25 #[.slice A N c,.slice iA iN iC],Hb F1 w2])):=y9.pk [7,8,3,4,0,1,2,5,6];have ks:=Sg hSol g 17 w2 _ (fun _=>none) Tm.Zl [] 0 [] _ hst ((keepS y5.below (fun k hk=>hk.2)).group (List.mem_of_getElem? (i:=2) rfl)) ⟨Bi.nil,fun i hi=>(by cases hi),rfl,by decide⟩ (fun l hl=>by cases hl) rfl rfl rfl (fun r hr=>by cases hr) HS.out.2.1 (by decide) (by decide);rw[show ([]:List Qi).map Qf=[] from rfl,HS.out.2.2.2.2.1] at ks;obtain⟨o,last,S⟩:=res;have hfl:S.full=false:=HS.out.2.2.2.1;have Y1:=Kd y5.below;clear kn y2 y3 y4 hP hF1 y5 y6 y7 y8 y9 hst hSol hM1 hRX hAv hkeys x0 x1;have HF:=Kd hfl;clear hfl
 cases o with
 | none=>
   go_wp2_with fail;refine ks.mono ?_;rintro e w3 ⟨V,M,rfl,hbk,hso,hgr,hlast,y9⟩;have e6:w3.cell? ⟨g,6,none⟩=some (.bool false) :=(by rw[←HF.out];exact(y9.srCell 6).1);have e3:w3.cell? ⟨g,3,none⟩=some (.slice V.iA S.infs.length V.iC):=(y9.srCell 3).1
   have hl:last<S.infs.length:=by
    rcases hlast with h|h
    ·rw[HF.out] at h
     cases h
    ·rw[←hso.len]
     exact h
   have ya:=St.ungroup (Ps:=[Qa (w.heap.size+1) 75 #[.bool false,.slice none 0 0,.slice none 0 0,.slice none 0 0],Qa w.heap.size 25 #[.slice A N c,.slice iA iN iC],Hb F1 w2]) (y9.pick [8,2] (by decide) (by simp[Z5,O8]));obtain⟨jA,jC,ej,hj1,hj2⟩:=Q4 (ya.pk [3]).own;obtain⟨rfl,-,rfl⟩:=Value.slice.inj ej;have yb:=St.quRead (ya.pk [3,0]).toQu (Ew S.infs);have hb:=(yb.pk [1]).blk;have a0:=hb.cell 0;have a1:=hb.cell 1;have a2:=hb.cell 2;have a3:=hb.cell 3;have f0:=hb.frozen 0;have f1:=hb.frozen 1;have f2:=hb.frozen 2;have f3:=hb.frozen 3;have hsm:=hso.small;have hok:=hso.ok;obtain⟨m,hm⟩:∃ m,S.infs.length=m:=⟨_,rfl⟩;rw[hm] at hl hsm hj1 e3;have YB:=Kd ((((yb.swap.set_ 0 (.bool false)).set_ 1 (.slice none 0 0)).set_ 2 (.slice V.iA (last+1) V.iC)).set_ 3 (.slice none 0 0));have HE:=Kd6 hm hl hsm hj1 hj2 hok;have i0:(0:Int)≤(last:Int)+1 :=(by omega);have i1:(last:Int)+1≤(V.iC:Int) :=(by omega);have w1':wrap64 ((last:Int)+1)=(last:Int)+1:=IntWalk.wrap64_in _ (by omega);have w2':IntKind.i64.wrap ((last:Int)+1)=(last:Int)+1 :=(by rw[IntKind.wrap_i64];omega);have w3':((last:Int)+1).toNat=last+1 :=(by omega);clear ks y9 hso hgr hlast ya yb hb hm hok hj1 hj2 hsm hl hbk;go_wp2;have y:=YB.out;simp only[List.setIfInBounds_toArray,List.set_cons_zero,List.set_cons_succ] at y;refine bodyPost_ret (Jv rfl _ _ _ _ _ _ _ rfl y.blk underlying75 rfl Sj) rfl ?_;obtain⟨hm,hl,hsm,hj1,hj2,hok⟩:=HE.out;show K8 X roots w _ _;unfold K8;rw[HS.out.2.2.2.2.1];exact⟨V.iA,V.iC,rfl,by rw[hm];exact hl,by rw[hm];exact hsm,by omega,hj2,hok,y.tail⟩
 | some dt=>
   obtain⟨d,t⟩:=dt;have ht:=Nat.le_trans (HS.out.2.2.1 d t last S rfl) (Nat.le_of_lt_succ HS.out.2.1);go_wp2_with fail;refine ks.mono ?_;rintro e w3 ⟨V,M,D,us,rfl,hd,hDX,hso,hgr,hsk,y9⟩;have e6:w3.cell? ⟨g,6,none⟩=some (.bool false) :=(by rw[←HF.out];exact(y9.srCell 6).1);obtain⟨n,hn⟩:∃ n,(D.map Zg).length=n:=⟨_,rfl⟩;obtain⟨cA,cC,ec,sc1,sc2,-⟩:=(y9.pick [7] (by decide) (by simp[Z5,O8])).cho;rw[hn] at ec sc1;have e8:w3.cell? ⟨g,8,none⟩=some (.slice cA n cC) :=(by have:w3.cell? ⟨g,8,none⟩=some V.cho:=(y9.srCell 8).1;rw[ec] at this;exact this);obtain⟨jA,jC,ej,hj1,hj2⟩:=Q4 (y9.pick [2] (by decide) (by simp[Z5,O8])).own;obtain⟨rfl,-,rfl⟩:=Value.slice.inj ej;obtain⟨kA0,kC0,ek,hk1,hk2⟩:=Q4 (y9.pick [8] (by decide) (by simp[Z5,O8])).own;rw[Nat.zero_add] at ek hk1;obtain⟨u0,hu0⟩:∃ n,us.length=n:=⟨_,rfl⟩;rw[hu0] at ek hk1;have e9:w3.cell? ⟨g,9,none⟩=some (.slice kA0 u0 kC0) :=(by have:w3.cell? ⟨g,9,none⟩=some V.skp:=(y9.srCell 9).1;rw[ek] at this;exact this);obtain⟨m,hm⟩:∃ m,S.infs.length=m:=⟨_,rfl⟩;have e3:w3.cell? ⟨g,3,none⟩=some (.slice V.iA m V.iC) :=(by rw[←hm];exact(y9.srCell 3).1);have hD:D.length≤16 :=(by have:=HD16.out d t last S rfl;rw[←hd,List.length_map] at this;exact this);have ya:=St.ungroup (Ps:=[Qa (w.heap.size+1) 75 #[.bool false,.slice none 0 0,.slice none 0 0,.slice none 0 0],Qa w.heap.size 25 #[.slice A N c,.slice iA iN iC],Hb F1 w2]) (y9.pick [9,0,2,5,7,8] (by decide) (by simp[Z5,O8]));have yb:=St.quRead (ya.pk [4,3,5,6,7,0]).toQu (Ew S.infs);have yc:St w.heap.size w w3 [Qa g 121 (Q5 V S),Xy V.cho (D.map Zg),Xl V.iA (S.infs.flatMap Xj),Ak us,Qh 49 1 V.skp (0+us.length) ([]++us),Qa (w.heap.size+1) 75 #[.bool false,.slice none 0 0,.slice none 0 0,.slice none 0 0]]:=yb.pk [1,3,0,2,4,5];rw[ek,List.nil_append,Nat.zero_add,hu0] at yc;have kc:∀(W:World),Below w3.heap.size w3 W→Calls prog 58 #[.slice cA n cC] W fun e w'=>∃ A' c',e=.returned (.slice A' n c')∧St W.heap.size W w' [Qh 38 4 (.slice A' n c') n ((D.map Zg).flatMap Wm)]:=fun W hW=>by obtain⟨cA',cC',ec',-,-,hrd⟩:=(yc.pk [1]).cho.keep' (F:=fun k=>w.heap.size≤k) (Qm.of_below hW);rw[ec,hn] at ec';obtain⟨rfl,-,rfl⟩:=Value.slice.inj ec';exact Hz cA n cC _ _ W hrd (Bp _) (by rw[Hl,hn]) (by rw[←hn,List.length_map];omega)
   have YC:=Kd yc;have KC:=Kd kc;have hn16:n≤16 :=(by rw[←hn,List.length_map];exact hD);have hm16:=hso.small;rw[hm] at hm16;have HE:=Kd10 hd hDX hso.ok hsk hn hm hu0 (And.intro hj1 hj2) hm16 ht;have HEC:=Kd ec;have HEK:=Kd ek;have HKL:=Kd (Nat.le_trans hk1 hk2);clear ks y9 hd hDX hso hgr hsk hn sc1 sc2 hj1 hj2 hk1 hk2 hm ya yb yc kc hD ec ek hu0 ht;go_wp2_with fail;apply Xt (fun (pA:Nat) (qA:Option Addr) (qC:Nat) w'=>St w.heap.size w w' [Qa pA 75 #[.bool true,.slice qA n qC,.slice V.iA m V.iC,.slice none 0 0],Qh 38 4 (.slice qA n qC) n ((D.map Zg).flatMap Wm),Qa g 121 (Q5 V S),Xl V.iA (S.infs.flatMap Xj),Ak us,Qh 49 1 (.slice kA0 u0 kC0) u0 us,Qa (w.heap.size+1) 75 #[.bool false,.slice none 0 0,.slice none 0 0,.slice none 0 0]])
   case h =>
    have f0:∀ W',St w.heap.size w W' [Qa g 121 (Q5 V S)]→W'.cell? ⟨g,8,none⟩=some (.slice cA n cC)∧W'.cell? ⟨g,3,none⟩=some (.slice V.iA m V.iC):=fun W' hW=>by have h8:W'.cell? ⟨g,8,none⟩=some V.cho:=hW.blk.cell 8;have h3:W'.cell? ⟨g,3,none⟩=some (.slice V.iA S.infs.length V.iC):=hW.blk.cell 3;rw[HEC.out] at h8;rw[HE.out.2.2.2.2.2.1] at h3;exact⟨h8,h3⟩
    have F0:=Kd f0;have rd:=(Below.refl w3.heap.size w3).drew;have ra:=((Below.refl w3.heap.size w3).alloc (Nat.le_refl _) (.cells #[.bool false,.slice none 0 0,.slice none 0 0,.slice none 0 0] 75)).drew;clear f0;refine wp_region_noPanic ?_;refine wp_region_held_drew (S:=(fun W'=>W'.cell? ⟨g,8,none⟩=some (.slice cA n cC)∧W'.cell? ⟨g,3,none⟩=some (.slice V.iA m V.iC))) (by kernel_rfl) ?_ (fun hH0=>?_)
    ·exact F0.out _ (YC.out.drew.pk [0])
    refine tk 0 40 hH0 ?_;refine tk 1 41 hH0 ?_;refine tk 2 42 hH0 ?_;refine tk 3 43 hH0 ?_;refine tk 5 45 hH0 ?_;refine tk 6 46 hH0 ?_;refine tk 7 47 hH0 ?_;refine tk 8 48 hH0 ?_;refine Zk [4,10] ?_;refine ad 44 (fun K hK=>?_) ?_
    go_simp;(
     with_reducible refine(KC.out _ rd).mono ?_
     rintro e w4 ⟨qA,qC,rfl,y4⟩
     have y5:=YC.out.drew.graft y4);go_wp2_with fail
    refine hK.out _ _ ?_ (fun hH1=>?_)
    ·exact F0.out _ (y5.pk [1])
    clear hK K hH0
    try simp only[pu]
    refine tk 9 49 hH1 ?_;refine Zk [10] ?_;refine an 9 fun K hK=>?_;go_simp;refine hK.out _ _ ?_ (fun hH2=>?_)
    ·exact F0.out _ ((y5.alloc0 _).pk [1])
    clear hK K hH1
    try simp only[pu]
    refine Zk [11] ?_;refine az fun K hK=>?_;go_simp;refine hK.out _ _ ?_ (fun hH3=>?_)
    ·exact F0.out _ ((y5.alloc0 _).pk [1])
    clear hK K hH2
    try simp only[pu]
    refine dn ?_ _;rotate_left 1;refine an 9 fun K hK=>?_;go_simp;refine hK.out _ _ ?_ (fun hH4=>?_)
    ·exact F0.out _ ((YC.out.drew.alloc0 _).pk [0])
    clear hK K hH0
    try simp only[pu]
    refine Zk [4] ?_;refine an 44 fun K hK=>?_
    go_simp;(
     with_reducible refine(KC.out _ ra).mono ?_
     rintro e w4 ⟨qA,qC,rfl,y4⟩;have y6:=(YC.out.alloc 75 #[.bool false,.slice none 0 0,.slice none 0 0,.slice none 0 0]).drew.graft y4;obtain⟨b0,b1,b2,b3⟩:=bk4f (y6.pk [1]).blk
     have y7:=((((y6.pk [1,2,0,3,4,5,6,7]).set_ 0 (.bool true)).set_ 1 (.slice qA n qC)).set_ 2 (.slice V.iA m V.iC)).set_ 3 (.slice none 0 0));go_wp2_with fail
    refine hK.out _ _ ?_ (fun hH5=>?_)
    ·exact F0.out _ (y6.pk [2])
    clear hK K hH4
    try simp only[pu]
    refine tk 9 49 hH5 ?_;refine Zk [11] ?_;refine az fun K hK=>?_;go_simp;refine hK.out _ _ ?_ (fun hH6=>?_)
    ·exact F0.out _ (y7.pk [1])
    clear hK K hH5
    try simp only[pu]
    refine dn ?_ _
    all_goals(refine NoPanic.normal ?_)
    all_goals
     first
      | (have yF:=(y5.alloc 75 #[.bool true,.slice qA n qC,.slice V.iA m V.iC,.slice none 0 0]).pk [0,1,2,4,5,6,7]
         have yG:=yF.drew;obtain⟨pG,hpG⟩:∃ q,w4.heap.size=q:=⟨_,rfl⟩;rw[hpG] at yF yG ⊢
         first
          |exact⟨rfl,pG,qA,qC,rfl,yF⟩
          |exact⟨rfl,pG,qA,qC,rfl,yG⟩)
      | (simp only[List.setIfInBounds_toArray,List.set_cons_zero,List.set_cons_succ] at y7
         have yF:=y7.pk [0,2,1,4,5,6,7];have yG:=yF.drew;obtain⟨pG,hpG⟩:∃ q,w3.heap.size=q:=⟨_,rfl⟩;rw[hpG] at yF yG ⊢
         first
          |exact⟨rfl,pG,qA,qC,rfl,yF⟩
          |exact⟨rfl,pG,qA,qC,rfl,yG⟩)
   case k=>
    rintro pA qA qC w5 y5;have hnl:=HE.out.2.2.2.2.1;have kso:=Ah (y5.pk [1,0,2,3,4,5,6]) hnl (by omega);have p1:=y5.blk.cell 1;have Y5:=Kd y5.below;clear y5 hnl e6 e8 e9 e3 YC KC;go_wp2_with fail;refine kso.mono ?_;rintro e w6 ⟨rfl,L,hp,hsrt,y6⟩;obtain⟨qA',qC',eq',hq1,hq2⟩:=Q4 y6.own;obtain⟨rfl,-,rfl⟩:=Value.slice.inj eq';have e9:w6.cell? ⟨g,9,none⟩=some (.slice kA0 u0 kC0) :=(by have:w6.cell? ⟨g,9,none⟩=some V.skp:=(y6.pk [2]).blk.cell 9;rw[HEK.out] at this;exact this);have y7:=St.quRead y6.toQu (by rw[Hl,hp.length_eq,HE.out.2.2.2.2.1]);have Y7:=Kd ((y7.quNil 3 156).pk [2,0,1,4,5,6,7]);have HL:=Kd4 hp hsrt hq1 hq2;have hu9:u0≤9223372036854775807 :=(by have:=HKL.out;unfold maxLen at this;omega);clear kso p1 y6 y7 eq' hp hsrt hq1 hq2 Y5;go_wp2
    go_loopw [58] (fun i wr=>∃(j oN:Nat) (oA:Option Addr) (oC:Nat) (xs:List Value),j≤u0∧i=.int .i64 j∧Hid (oN=skN (us.take j)∧xs.length=oN*3∧∀ u∈xs,u.oneCell'=true)∧Hid (St w.heap.size w wr [Qa pA 75 #[.bool true,.slice qA n qC,.slice V.iA m V.iC,.slice oA oN oC],Ja 3 (.slice oA oN oC) oN xs,Xl qA (L.flatMap Wm),Xl V.iA (S.infs.flatMap Xj),Ak us,Qh 49 1 (.slice kA0 u0 kC0) u0 us,Qa (w.heap.size+1) 75 #[.bool false,.slice none 0 0,.slice none 0 0,.slice none 0 0]])) (fun i _=>u0-(intOf i).toNat)
    case atStart=>exact⟨0,0,none,0,[],Nat.zero_le _,rfl,Kd ⟨rfl,rfl,fun u hu=>by cases hu⟩,Y7⟩
    case round=>
     obtain⟨j,oN,oA,oC,xs,hj,rfl,hq,hst⟩:=hrel;have hub:=HE.out.2.2.2.2.2.2.1;have hskt:=HE.out.2.2.2.1;have ht16:=HE.out.2.2.2.2.2.2.2.2.2
     by_cases hlt:j<u0
     ·have hju:us[j]?=some (us[j]'(by omega)):=List.getElem?_eq_getElem (by omega)
      obtain⟨F',hsk,-,-⟩:=(hst.out.pk [4]).open;obtain⟨A1,n1,c1,xs1,eu,-,-,-,hx1,hx2,hx3⟩:=hsk.1 _ (List.getElem_mem (by omega:j<us.length));rw[eu] at hju;have hst':=hst.out.pk [5];obtain⟨gb,c',eA,hgb,-,-⟩:=Zx hst'.own (by omega);obtain⟨rfl,-,rfl⟩:=Value.slice.inj eA;obtain⟨ce,-⟩:=hst'.cellAt hju;have hnx:=Ap us j _ hju;have hle:=skN_le us (j+1);obtain⟨hqn,hql,hqo⟩:=hq.out;have hnx:skN (us.take (j+1))=oN+n1 :=(by rw[hnx,←hqn]);have q1:oN+n1≤maxLen :=(by unfold maxLen;omega);have q2:(oN+n1)*32≤140737488355328 :=(by omega);have a3:=hst.out.blk.cell 3;have i0:(0:Int)≤(j:Int):=Int.natCast_nonneg _;have i1:(j:Int)<(u0:Int):=Int.ofNat_lt.2 hlt;have Y1:=Kd (hst.out.pk [1,0,2,3,4,5,6]);have HR:=Kd hx2;have HX:=Kd6 hx1 hx3 hnx hql hqo hlt;clear hju hsk eu hx1 hx2 hx3 hst' hnx hle hqn hql hqo hst hub hskt ht16 hlt eA;go_wp2_with (at_builtin;go_must (refine Jw 49 Y1.out underlying49 Df rfl HR.out HX.out.1 (by decide) HX.out.2.1 q1 q2 rfl _ _ rfl rfl rfl ?_);intro A9 c9 w9 h9;have a9:_=some _:=(h9.pk [1]).blk.cell 3;have f9:=(h9.pk [1]).blk.frozen 3);have y9:=h9.swap.set_ 3 (.slice A9 (oN+n1) c9);simp only[List.setIfInBounds_toArray,List.set_cons_zero,List.set_cons_succ] at y9;have Y9:=Kd y9;clear h9 a9 f9 y9 Y1 HR q1 q2 a3;go_wp2
      go_roundw
      case rel=>
       obtain⟨hx1,hx3,hnx,hql,hqo,hlt⟩:=HX.out;refine⟨j+1,oN+n1,A9,c9,xs++xs1,Nat.succ_le_of_lt hlt,by go_num,Kd ⟨hnx.symm,by rw[List.length_append,hql,hx1,Nat.add_mul],fun u hu=>?_⟩,Y9⟩;rcases List.mem_append.1 hu with hu|hu
       ·exact hqo u hu
       ·exact hx3 u hu
      case measure=>have:=HX.out.2.2.2.2.2;simp[intOf];omega
     ·obtain rfl:j=u0:=Nat.le_antisymm hj (Nat.le_of_not_lt hlt)
      have hge:decide ((j:Int)<(j:Int))=false :=(by simp);obtain⟨hqn,hql,hqo⟩:=hq.out;rw[List.take_of_length_le (Nat.le_of_eq hub),hskt] at hqn;subst hqn;obtain⟨a0,a1,a2,a3⟩:=bk4f hst.out.blk;obtain⟨b0,b1,b2,b3⟩:=bk4f (hst.out.pk [6]).blk;obtain⟨oA',oC',eo,ho1,ho2⟩:=hst.out.tail.qu_form;obtain⟨rfl,-,rfl⟩:=Value.slice.inj eo;have yz:=((((St.quRead (hst.out.pk [1,6,2,3]) hql).swap.set_ 0 (.bool true)).set_ 1 (.slice qA n qC)).set_ 2 (.slice V.iA m V.iC)).set_ 3 (.slice oA t.length oC);simp only[List.setIfInBounds_toArray,List.set_cons_zero,List.set_cons_succ] at yz;have YZ:=Kd yz;have HZ:=Kd3 hql ho1 ho2;clear yz hql ho1 ho2 hst eo hqo hub hskt ht16;go_wp2;refine bodyPost_ret (Jv rfl _ _ _ _ _ _ _ rfl YZ.out.blk underlying75 rfl Sj) rfl ?_;obtain⟨hd,hDX,hok,hsk,hn,hm,hu0,⟨hj1,hj2⟩,hm16,ht⟩:=HE.out;obtain⟨hp,hsrt,hq1,hq2⟩:=HL.out;obtain⟨hql,ho1,ho2⟩:=HZ.out;have hLn:L.length=n :=(by rw[hp.length_eq,hn]);show K8 X roots w _ _;unfold K8;rw[HS.out.2.2.2.2.1];exact⟨qA,qC,V.iA,V.iC,oA,oC,xs,L,D,by rw[hLn,hm];rfl,hd,hDX,hp,hsrt,by omega,hq2,by omega,hj2,by omega,hok,hql,ho1,ho2,YZ.out.pk [2,3,1]⟩
def Ha (X:List Qi) (roots:List Tm.Qw) (w:World) (e:Ending) (w':World):Prop:=
 match Tm.Za (X.map Qf) roots 17 Tm.Zl [] with
 |(some (d,t),_,S)=>∃(sA:Option Addr) (sC:Nat) (L:List Zy) (D:List Qi),e=.returned (.tuple #[.slice sA L.length sC,.int .i64 0])∧D.map Qf=d∧(∀ r∈D,r∈X)∧L.Perm (D.map Zg)∧L.Pairwise (fun x y=>Tm.Jr y.1 x.1=false)∧L.length≤sC∧sC≤maxLen∧St w.heap.size w w' [Xl sA (L.flatMap Wm)]
 |(none,_,_)=>e=.returned (.tuple #[.slice none 0 0,.int .i64 17])∧Below w.heap.size w w'
theorem Ns (X:List Qi) (roots:List Tm.Qw) (v rv:Value) (iA:Option Addr) (iN iC:Nat) (F G:Nat→Prop) (w:World) (h:Qx w F v X) (h2:Qt w G rv roots) (hs:Wp X) (hs2:∀ q∈roots,Zu q) (h16:X.length≤16) (hv:Wr X roots=true) (hg:Ji w):
 Calls prog 9 #[.agg #[v,.slice iA iN iC],rv] w (Ha X roots w):=by
 obtain⟨A,c,rfl,-,-,-,-⟩:=id h;obtain⟨rA,rC,Mr,-,rfl,-,-,-,-⟩:=id h2;have y0:=(St.nil w).alloc 25 #[.slice A X.length c,.slice iA iN iC];obtain⟨W0,hW0⟩:∃ W,w.alloc (.cells #[.slice A X.length c,.slice iA iN iC] 25)=W:=⟨_,rfl⟩;rw[hW0] at y0;have ks:=Ya X roots _ _ iA iN iC F G W0 (h.below y0.below) (h2.below y0.below) hs hs2 h16 hv (hg.below y0.below);unfold K8 at ks;obtain⟨N,hN⟩:∃ N,X.length=N:=⟨_,rfl⟩;obtain⟨rN,hrN⟩:∃ n,Mr.length=n:=⟨_,rfl⟩;rw[hN] at ks y0 hW0 ⊢;rw[hrN] at ks ⊢;have x0:=y0.blk.cell 0;have x1:=y0.blk.cell 1;obtain⟨⟨o,last,S⟩,hres⟩:∃ r,Tm.Za (X.map Qf) roots 17 Tm.Zl []=r:=⟨_,rfl⟩;rw[hres] at ks;have HR:=Kd hres;have Y0:=Kd y0;clear h h2 hs hs2 h16 hv hg hN hrN y0 hres;go_enter func9,ntmps9
 cases o with
 |none =>go_wp2_with fail;refine ks.mono ?_;rintro e w1 ⟨jA,jC,rfl,-,-,-,-,-,y1⟩;have Y1:=Kd (Y0.out.below.trans (y1.below.mono Y0.out.size));have hl:w.heap.size≤w1.heap.size:=Y1.out.size;clear ks y1 x0 x1;go_wp2;go_ret2;show Ha X roots w _ _;unfold Ha;rw[HR.out];exact⟨rfl,Y1.out.alloc hl _⟩
 |some dt =>obtain⟨d,t⟩:=dt;go_wp2_with fail;refine ks.mono ?_;rintro e w1 ⟨sA,sC,jA,jC,kA,kC,xs,L,D,rfl,hd,hDX,hp,hsrt,h1,h2,-,-,-,-,-,-,-,y1⟩;have Y1:=Kd (((Y0.out.graft y1).pk [0]).alloc0 (.cells #[.bool true,.slice sA L.length sC,.slice jA S.infs.length jC,.slice kA t.length kC] 75));have HE:=Kd6 hd hDX hp hsrt h1 h2;obtain⟨n,hn⟩:∃ n,L.length=n:=⟨_,rfl⟩;obtain⟨m,hm⟩:∃ n,S.infs.length=n:=⟨_,rfl⟩;obtain⟨l,hl⟩:∃ n,t.length=n:=⟨_,rfl⟩;rw[hn,hm,hl] at Y1 ⊢;have HN:=Kd hn;clear ks y1 hd hDX hp hsrt h1 h2 x0 x1 hn hm hl;go_wp2;go_ret2;show Ha X roots w _ _;unfold Ha;rw[HR.out];obtain⟨hd,hDX,hp,hsrt,h1,h2⟩:=HE.out;exact⟨sA,sC,L,D,by rw[HN.out];rfl,hd,hDX,hp,hsrt,h1,h2,Y1.out⟩
theorem Wa {X:List Qi} (h:Ey X=true):Wp X∧(∀ r∈X,K9 r)∧X.length≤16:=by
 unfold Ey at h;rw[Bool.and_eq_true,decide_eq_true_eq,List.all_eq_true] at h;have hq:∀ r∈X,r.path.length≤100∧r.arch.length≤100∧r.iface.length≤100∧r.cert.length≤100∧(∀ q∈r.reqs,Zu q)∧r.reqs.length≤20:=fun r hr=>by have:=h.1 r hr;unfold Fg G3 at this;simp only[Bool.not_eq_true',Bool.or_eq_false_iff,decide_eq_false_iff_not,Nat.not_lt,Bool.not_eq_false',Bool.and_eq_true,decide_eq_true_eq,List.all_eq_true] at this;obtain⟨h1,h2,h3,h4,h5,h6⟩:=this;refine⟨h1,h2,h3,h4,fun q hq=>?_,h6⟩;have:=h5 q hq;unfold Hw at this;simp only[Bool.not_eq_true',Bool.or_eq_false_iff,decide_eq_false_iff_not,Nat.not_lt] at this;exact⟨by omega,by omega⟩
 exact⟨fun r hr=>by
  obtain⟨h1,h2,h3,h4,h5,h6⟩:=hq r hr
  exact⟨h5,by omega,by omega,by omega,by omega⟩,fun r hr=>by
  obtain⟨h1,h2,h3,h4,h5,h6⟩:=hq r hr
  exact⟨by omega,h5,by omega⟩,h.2⟩
theorem Kx {L:List Tm.Qw} (h:G3 L=true):(∀ q∈L,Zu q)∧L.length≤20:=by unfold G3 at h;rw[Bool.and_eq_true,decide_eq_true_eq,List.all_eq_true] at h;refine⟨fun q hq=>?_,h.2⟩;have:=h.1 q hq;unfold Hw at this;simp only[Bool.not_eq_true',Bool.or_eq_false_iff,decide_eq_false_iff_not,Nat.not_lt] at this;exact⟨by omega,by omega⟩
theorem perm_lift {α β:Type} (f:α→β) {M N:List β} (h:M.Perm N):∀ D:List α,D.map f=M→∃ D2:List α,D2.Perm D∧D2.map f=N:=by
 induction h with
 |nil=>exact fun D e=>⟨D,List.Perm.refl _,e⟩
 | cons x _ ih=>
   intro D e
   match D,e with
   |a::D,e =>obtain⟨h1,h2⟩:=List.cons.inj e;obtain⟨D2,g1,g2⟩:=ih D h2;exact⟨a::D2,g1.cons a,by rw[List.map_cons,g2,h1]⟩
 | swap x y l=>
   intro D e
   match D,e with
   |a::b::D,e =>obtain⟨h1,h2⟩:=List.cons.inj e;obtain⟨h2,h3⟩:=List.cons.inj h2;exact⟨b::a::D,List.Perm.swap _ _ _,by rw[List.map_cons,List.map_cons,h1,h2,h3]⟩
 |trans _ _ ih1 ih2 =>intro D e;obtain⟨D1,g1,g2⟩:=ih1 D e;obtain⟨D2,k1,k2⟩:=ih2 D1 g2;exact⟨D2,k1.trans g1,k2⟩
theorem sel_of_rel {r s:Qi} (hr:V7 r=0) (hs:V7 s=0) (h:Qf r=Qf s):Zg r=Zg s:=by obtain⟨m,m1,m2,m3,-⟩:=Wl hr;obtain⟨n,n1,n2,n3,-⟩:=Wl hs;obtain⟨-,-,a1,a2,a3,a4⟩:=Wk m2;obtain⟨-,-,b1,b2,b3,b4⟩:=Wk n2;unfold Qf at h;injection h with h1 h2 h3 h4;unfold Jt at h2;unfold Zg;rw[h1] at m1;have hm:m=n:=Option.some.inj (m1.symm.trans n1);rw[h1,m3,n3,hm,show r.minor=s.minor by omega,show r.patch=s.patch by omega]
theorem Km {X:List Qi} (hX:∀ r∈X,V7 r=0):∀ A B:List Qi,(∀ r∈A,r∈X)→(∀ r∈B,r∈X)→A.map Qf=B.map Qf→A.map Zg=B.map Zg
 |[],[],_,_,_=>rfl
 |[],b::B,_,_,h=>by cases h
 |a::A,[],_,_,h=>by cases h
 |a::A,b::B,hA,hB,h=>by obtain⟨h1,h2⟩:=List.cons.inj h;rw[List.map_cons,List.map_cons,sel_of_rel (hX a (hA a (List.mem_cons_self ..))) (hX b (hB b (List.mem_cons_self ..))) h1,Km hX A B (fun r hr=>hA r (List.mem_cons_of_mem _ hr)) (fun r hr=>hB r (List.mem_cons_of_mem _ hr)) h2]
theorem Oi {X:List Qi} {roots:List Tm.Qw} (hp:X5 X roots=true) (hg:Tm.Jm (X.map Qf)=true) (h16:X.length≤16) {d:List Tm.Qp} {t:List Tm.Ol} {k:Nat} {S:Tm.Qv} (hres:Tm.Za (X.map Qf) roots 17 Tm.Zl []=(some (d,t),k,S))
 {L:List Nat} (hm:¬ Tm.Bh (X.map Qf) roots) (hc:Tm.Ub (X.map Qf) roots L) {M:List Zy} {D:List Qi} (hd:D.map Qf=d) (hD:∀ r∈D,r∈X) (hpm:M.Perm (D.map Zg)) (hs:M.Pairwise fun x y=>Tm.Jr y.1 x.1=false):
 L.map (fun i=>Zg (xD X i))=M:=by
 obtain⟨-,h2⟩:=Tm.Uw (Oz hp hg) (by rw[List.length_map];exact h16);obtain⟨d2,t2,e,hu⟩:=h2 L hm hc;rw[hres] at e;obtain⟨rfl,-⟩:=Prod.mk.inj (Option.some.inj e);obtain⟨⟨-,hnd,-⟩,-⟩:=Tm.Xr (x:=X.map Qf) roots 17 Tm.Zl [] d t k S ⟨fun c hc=>(by cases hc),List.Pairwise.nil,fun n hn c hc=>(by cases hc)⟩ hres;obtain⟨D2,p1,p2⟩:=perm_lift Zg hpm.symm D rfl;have hchk:∀ r∈X,V7 r=0:=by unfold X5 at hp;rw[Bool.and_eq_true,decide_eq_true_eq] at hp;exact(Vj hp.1).2.2
 have hD2:∀ r∈D2,r∈X:=fun r hr=>hD r (p1.mem_iff.1 hr)
 have hnd2:D2.Pairwise fun a b=>a.path≠b.path:=by
  have h1:D.Pairwise fun a b=>a.path≠b.path:=by rw[←hd,List.pairwise_map] at hnd;exact hnd
  exact(p1.symm.pairwise_iff (fun {a b} h=>fun e=>h e.symm)).1 h1
 have hsrt:(D2.map Qf).Pairwise fun a b=>Tm.Jr a.path b.path=true:=by
  rw[List.pairwise_map];rw[←p2,List.pairwise_map] at hs;refine(hs.and hnd2).imp fun {a b} h=>?_
  cases hl:Tm.Jr a.path b.path with
  |true=>exact hl
  |false=>exact absurd (Tm.Vp _ _ hl h.1) h.2
 have e1:=hu (D2.map Qf) (fun c=>by
  rw[←hd]
  exact(p1.map Qf).mem_iff) hsrt
 have hLX:∀ i∈L,i<X.length:=fun i hi=>by
  obtain⟨r,hr,-⟩:=((hc.elem i).1 hi).1.there;have:=(List.getElem?_eq_some_iff.1 hr).1
  rwa [List.length_map] at this
 have e2:∀ L:List Nat,(∀ i∈L,i<X.length)→(L.filterMap fun i=>(X.map Qf)[i]?)=(L.map (xD X)).map Qf:=fun L=>by
  induction L with
  |nil=>exact fun _=>rfl
  |cons i L ih =>intro h;have hi:=h i (List.mem_cons_self ..);have e:(X.map Qf)[i]?=some (Qf (xD X i)) :=(by rw[List.getElem?_map,List.getElem?_eq_getElem hi,Uq hi];rfl);rw[List.filterMap_cons_some e,ih fun j hj=>h j (List.mem_cons_of_mem _ hj)];rfl
 rw[e2 L hLX] at e1
 have:=Km hchk D2 (L.map (xD X)) hD2 (fun r hr=>by
  obtain⟨i,hi,rfl⟩:=List.mem_map.1 hr;rw[Uq (hLX i hi)]
  exact List.getElem_mem _) e1
 rw[p2] at this;rw[this,List.map_map];rfl
theorem top_walk (kaw:∀ W,Ji W→Calls prog 4 #[] W fun e w'=>e=.returned (.bool true)∧Below W.heap.size W w') (X:List Qi) (roots:List Tm.Qw) (v rv:Value) (iA:Option Addr) (iN iC:Nat) (F:Nat→Prop) (w:World) (h:Qx w F v X) (h2:Qt w F rv roots) (hg:Ji w):
 Calls prog 3 #[.agg #[v,.slice iA iN iC],rv] w fun e w'=>e=.returned (.bool true)∧Below w.heap.size w w':=by
 obtain⟨A,c,rfl,-,-,-,-⟩:=id h;obtain⟨rA,rC,Mr,-,rfl,-,-,-,-⟩:=id h2;have y0:=(St.nil w).alloc 25 #[.slice A X.length c,.slice iA iN iC];obtain⟨W0,hW0⟩:∃ W,w.alloc (.cells #[.slice A X.length c,.slice iA iN iC] 25)=W:=⟨_,rfl⟩;rw[hW0] at y0;have ka:=kaw W0 (hg.below y0.below);have kf:=fun W (hW:Below w.heap.size w W)=>few_spec X roots _ _ iA iN iC F W (h.below hW) (h2.below hW);have kp:=fun W (hW:Below w.heap.size w W) (hf:Ey X=true) (hq:G3 roots=true)=>Sr X roots _ (.slice iA iN iC) _ F F W (h.below hW) (h2.below hW) (Wa hf).1 (Kx hq).1 rfl (hg.below hW);have kg:=fun W (hW:Below w.heap.size w W) (hf:Ey X=true)=>grows_spec X _ (.slice iA iN iC) F W (h.below hW) (Wa hf).1 (by have:=(Wa hf).2.2;omega) rfl;have ks:=fun W (hW:Below w.heap.size w W) (hf:Ey X=true) (hq:G3 roots=true) (hp:X5 X roots=true)=>Nt X roots _ (.slice iA iN iC) _ F F W (h.below hW) (h2.below hW) (Wa hf).1 (Kx hq).1 rfl (hg.below hW) hp (by have:=(Wa hf).2.2;omega) (Wa hf).2.1 (by have:=(Kx hq).2;omega);have kt:=fun W (hW:Below w.heap.size w W) (hf:Ey X=true) (hq:G3 roots=true) (hp:X5 X roots=true)=>Ns X roots _ _ iA iN iC F F W (h.below hW) (h2.below hW) (Wa hf).1 (Kx hq).1 (Wa hf).2.2 (Iz hp).1 (hg.below hW);obtain⟨N,hN⟩:∃ N,X.length=N:=⟨_,rfl⟩;obtain⟨rN,hrN⟩:∃ n,Mr.length=n:=⟨_,rfl⟩;rw[hN] at kf kp kg ks kt y0 hW0 ⊢;rw[hrN] at kf kp ks kt ⊢;have HK:=Kd5 kf kp kg ks kt;have Y0:=Kd y0;clear h h2 hg kaw kf kp kg ks kt y0 hN hrN;go_enter func3,ntmps3;go_wp2_with fail;refine ka.mono ?_;rintro e w1 ⟨rfl,z1⟩;have y1:=Y0.out.under z1;have x0:=y1.blk.cell 0;have x1:=y1.blk.cell 1;have kf:=HK.out.1 w1 y1.below;have Y1:=Kd y1;obtain⟨fb,hfb⟩:∃ b,(Ey X&&G3 roots)=b:=⟨_,rfl⟩;rw[hfb] at kf;have HF:=Kd hfb;clear ka z1 y1 Y0 hW0 hfb;go_wp2_with fail;refine kf.mono ?_;rintro e w2 ⟨rfl,z2⟩;have y2:=Y1.out.under z2;clear kf z2 x0 x1;have x0:=y2.blk.cell 0;have x1:=y2.blk.cell 1;have Y2:=Kd y2
 cases fb with
 |false =>clear y2;go_wp2;go_ret;exact⟨rfl,Y2.out.below⟩
 | true =>
   obtain⟨hf,hq⟩:=Bool.and_eq_true_iff.1 HF.out;have kp:=HK.out.2.1 w2 y2.below hf hq;obtain⟨pb,hpb⟩:∃ b,X5 X roots=b:=⟨_,rfl⟩;rw[hpb] at kp;have HP:=Kd3 hf hq hpb;clear hf hq hpb y2;go_wp2_with fail;refine kp.mono ?_;rintro e w3 ⟨rfl,z3⟩;have y3:=Y2.out.under z3;clear kp z3 x0 x1;have x0:=y3.blk.cell 0;have x1:=y3.blk.cell 1;have Y3:=Kd y3
   cases pb with
   |false =>clear y3;go_wp2;go_ret;exact⟨rfl,Y3.out.below⟩
   | true =>
     have kg:=HK.out.2.2.1 w3 y3.below HP.out.1;obtain⟨gb,hgb⟩:∃ b,Tm.Jm (X.map Qf)=b:=⟨_,rfl⟩;rw[hgb] at kg;have HG:=Kd hgb;clear hgb y3;go_wp2_with fail;refine kg.mono ?_;rintro e w4 ⟨rfl,z4⟩;have y4:=Y3.out.under z4;clear kg z4 x0 x1;have x0:=y4.blk.cell 0;have x1:=y4.blk.cell 1;have Y4:=Kd y4
     cases gb with
     |false =>clear y4;go_wp2;go_ret;exact⟨rfl,Y4.out.below⟩
     | true=>
       have ks:=HK.out.2.2.2.1 w4 y4.below HP.out.1 HP.out.2.1 HP.out.2.2;clear y4;go_wp2_with fail;refine ks.mono ?_;rintro e w5 ⟨z5,hsel⟩;have y5:=Y4.out.under z5;have kt:=HK.out.2.2.2.2 w5 y5.below HP.out.1 HP.out.2.1 HP.out.2.2;unfold Ha at kt;clear ks z5 x0 x1;have x0:=y5.blk.cell 0;have x1:=y5.blk.cell 1;have Y5:=Kd y5;clear y5;have hss:=Tm.Uw (Oz HP.out.2.2 HG.out) (by rw[List.length_map];exact(Wa HP.out.1).2.2);obtain⟨⟨o,last,S⟩,hres⟩:∃ r,Tm.Za (X.map Qf) roots 17 Tm.Zl []=r:=⟨_,rfl⟩;rw[hres] at kt hss;rcases hsel with⟨rfl,hmiss⟩|⟨sA,sC,L,rfl,hnm,hch,hsf⟩
       ·obtain rfl:o=none:=hss.1 hmiss
        clear hss hres hmiss;go_wp2_with fail;refine kt.mono ?_;rintro e w6 ⟨rfl,z6⟩;have Y6:=Kd (Y5.out.under z6).below;clear kt z6 x0 x1;go_wp2;go_ret;exact⟨rfl,Y6.out⟩
       ·obtain⟨d,t,ho,-⟩:=hss.2 L hnm hch
        have ho:o=some (d,t):=ho;subst ho;have HC:=Kd4 hres hnm hch hsf;obtain⟨l,hl⟩:∃ n,L.length=n:=⟨_,rfl⟩;rw[hl];have HL:=Kd hl;clear hss hres hnm hch hsf hl;go_wp2_with fail;refine kt.mono ?_;rintro e w6 ⟨tA,tC,M,D,rfl,hd,hDX,hpm,hsrt,ht1,ht2,y6⟩;have hsame:=Oi HP.out.2.2 HG.out (Wa HP.out.1).2.2 HC.out.1 HC.out.2.1 HC.out.2.2.1 hd hDX hpm hsrt
        have ke:=P5 (L.map fun i=>Zg (xD X i)) M _ (.slice tA M.length tC) (fun k=>w5.heap.size≤k∨w4.heap.size≤k) (fun k=>w5.heap.size≤k) w6 ((HC.out.2.2.2.below y6.below).mono' fun k hk=>.inr hk) ⟨tA,tC,rfl,ht1,ht2,y6.ro⟩ (by
         have:=B0 X.length L (HC.out.2.2.1.inc.imp fun h=>Nat.ne_of_lt h) fun i hi=>by
          obtain⟨r,hr,-⟩:=((HC.out.2.2.1.elem i).1 hi).1.there;have:=(List.getElem?_eq_some_iff.1 hr).1
          rwa [List.length_map] at this
         have:=(Wa HP.out.1).2.2;rw[List.length_map]
         omega)
        rw[decide_eq_true hsame,HL.out] at ke;have Y6:=Kd (Y5.out.under y6.below).below;obtain⟨m,hm⟩:∃ n,M.length=n:=⟨_,rfl⟩;rw[hm] at ke ⊢;clear kt hd hDX hpm hsrt ht1 ht2 y6 hsame hm x0 x1;go_wp2_with fail;refine ke.mono ?_;rintro e w7 ⟨rfl,z7⟩;have Z7:=Kd (Y6.out.trans (z7.mono Y6.out.size));clear ke z7;go_wp2;go_ret;exact⟨rfl,Z7.out⟩
theorem Vy:(prog.info? 43).map (fun i=>(i.zero,i.size,i.bytes))=some (some (.agg #[.string ⟨#[]⟩,.slice none 0 0]),2,40):=by kernel_rfl
theorem Ik (A:Option Addr) (n c:Nat) (xs:List Value) (F:Nat→Prop) (w:World) (hr:Z9 w F A xs) (hone:∀ u∈xs,u.oneCell'=true) (hfl:xs.length=n*2) (hL:n≤4294967296):
 Calls prog 32 #[.slice A n c] w fun e w'=>∃ A' c',e=.returned (.slice A' n c')∧St w.heap.size w w' [Qh 79 2 (.slice A' n c') n xs]:=by
 have kn:=fun w=>Lib.run_eql_slice_nil (P:=prog) w 41 79 A n c 0 0 underlying41
 cases A with
 | none=>
   obtain rfl:xs=[]:=by
    rcases hr with hr|⟨b,off,e,-⟩
    ·exact hr
    ·cases e
   obtain rfl:n=0:=by rw[List.length_nil] at hfl;omega
   clear hr hone hL hfl;go_enter func32,ntmps32;go_wp2;go_ret;exact⟨none,0,rfl,(St.nil w).new_own (Below.refl _ w) ⟨rfl,.inl ⟨rfl,rfl⟩⟩⟩
 | some a=>
   have y0:St w.heap.size w (w.alloc (.cells #[] 79)) [Qh 79 2 (.slice (some ⟨w.heap.size,0,none⟩) 0 0) 0 []]:=(St.nil w).new_own (b1 w _) (World.ownsRow_lit w #[] 0 (Nat.le_refl _) (by decide) rfl)
   have hnews:∀ j u,xs[j]?=some u→(w.alloc (.cells #[] 79)).cell? (a.add j)=some u:=fun j u hu=>by
    rcases hr with hr|⟨b,off,e,-,hb,hc⟩
    ·rw[hr] at hu
     cases hu
    ·obtain rfl:=Option.some.inj e
     obtain⟨hj,rfl⟩:=List.getElem?_eq_some_iff.1 hu;rw[Addr.add_lit,(b1 w _).cell hb];exact hc j hj
   have Y0:=Kd y0;have HN:=Kd hnews;have HO:=Kd hone;have q1:0+n≤maxLen :=(by unfold maxLen;omega);have q2:(0+n)*16≤140737488355328 :=(by omega);clear hr y0 hnews hone;go_enter func32,ntmps32;go_wp2_with (at_builtin;go_must (refine W9 41 Y0.out underlying41 Gn rfl (by decide) rfl _ _ rfl rfl a n c xs rfl hfl HN.out HO.out q1 q2 ?_);intro v1 w1 h1);have h1:St w.heap.size w w1 [Qh 79 2 v1 n xs] :=(by simpa using h1);obtain⟨A1,c1,rfl,-,-⟩:=Q4 h1.own;have H1:=Kd h1;clear h1;go_wp2;go_ret;exact⟨A1,c1,rfl,H1.out⟩
theorem Dt (A:Option Addr) (n c:Nat) (xs:List Value) (F:Nat→Prop) (w:World) (hr:Z9 w F A xs) (hone:∀ u∈xs,u.oneCell'=true) (hfl:xs.length=n*2) (hL:n≤1048576):
 Calls prog 128 #[.slice A n c] w fun e w'=>∃ A' c',e=.returned (.slice A' n c')∧St w.heap.size w w' [Qh 43 2 (.slice A' n c') n xs]:=by
 have kn:=fun w=>Lib.run_eql_slice_nil (P:=prog) w 26 43 A n c 0 0 underlying26
 cases A with
 | none=>
   obtain rfl:xs=[]:=by
    rcases hr with hr|⟨b,off,e,-⟩
    ·exact hr
    ·cases e
   obtain rfl:n=0:=by rw[List.length_nil] at hfl;omega
   clear hr hone hL hfl;go_enter func128,ntmps128;go_wp2;go_ret;exact⟨none,0,rfl,(St.nil w).new_own (Below.refl _ w) ⟨rfl,.inl ⟨rfl,rfl⟩⟩⟩
 | some a=>
   have y0:St w.heap.size w (w.alloc (.cells #[] 43)) [Qh 43 2 (.slice (some ⟨w.heap.size,0,none⟩) 0 0) 0 []]:=(St.nil w).new_own (b1 w _) (World.ownsRow_lit w #[] 0 (Nat.le_refl _) (by decide) rfl)
   have hnews:∀ j u,xs[j]?=some u→(w.alloc (.cells #[] 43)).cell? (a.add j)=some u:=fun j u hu=>by
    rcases hr with hr|⟨b,off,e,-,hb,hc⟩
    ·rw[hr] at hu
     cases hu
    ·obtain rfl:=Option.some.inj e
     obtain⟨hj,rfl⟩:=List.getElem?_eq_some_iff.1 hu;rw[Addr.add_lit,(b1 w _).cell hb];exact hc j hj
   have Y0:=Kd y0;have HN:=Kd hnews;have HO:=Kd hone;have q1:0+n≤maxLen :=(by unfold maxLen;omega);have q2:(0+n)*40≤140737488355328 :=(by omega);clear hr y0 hnews hone;go_enter func128,ntmps128;go_wp2_with (at_builtin;go_must (refine W9 26 Y0.out underlying26 Vy rfl (by decide) rfl _ _ rfl rfl a n c xs rfl hfl HN.out HO.out q1 q2 ?_);intro v1 w1 h1);have h1:St w.heap.size w w1 [Qh 43 2 v1 n xs] :=(by simpa using h1);obtain⟨A1,c1,rfl,-,-⟩:=Q4 h1.own;have H1:=Kd h1;clear h1;go_wp2;go_ret;exact⟨A1,c1,rfl,H1.out⟩
theorem Fi (s:List Tm.Sp) (v:Value) (F:Nat→Prop) (w:World) (h:Qr w F v s) (hl:s.length≤4294967296):
 Calls prog 32 #[v] w fun e w'=>∃ A c,e=.returned (.slice A s.length c)∧Below w.heap.size w w'∧Qr w' (fun k=>w.heap.size≤k) (.slice A s.length c) s:=by
 obtain⟨A,c,rfl,h1,h2,h3⟩:=h;refine(Ik A s.length c _ F w h3 (fun u hu=>?_) (Se s) hl).mono ?_
 ·obtain⟨x,-,hu⟩:=List.mem_flatMap.1 hu
  simp[G9] at hu;rcases hu with rfl|rfl<;>rfl
 ·rintro e w' ⟨A',c',rfl,y⟩
  exact⟨A',c',rfl,y.below,y.setOf rfl⟩
theorem bk9f {w:World} {g:Nat} {t:TypeId} {cs:Array Value} (h:Uc w g t cs):w.frozen? ⟨g,0,none⟩=false∧w.frozen? ⟨g,1,none⟩=false∧w.frozen? ⟨g,2,none⟩=false∧w.frozen? ⟨g,3,none⟩=false∧w.frozen? ⟨g,4,none⟩=false∧w.frozen? ⟨g,5,none⟩=false∧w.frozen? ⟨g,6,none⟩=false∧w.frozen? ⟨g,7,none⟩=false∧w.frozen? ⟨g,8,none⟩=false:=⟨h.frozen 0,h.frozen 1,h.frozen 2,h.frozen 3,h.frozen 4,h.frozen 5,h.frozen 6,h.frozen 7,h.frozen 8⟩
def mR (M:List We):Q3 where
 P w F:=(∀ m∈M,Qr w F m.2 m.1.set)∧∀ k,F k→k<w.heap.size
 lt h:=h.2
 mod h hm hG:=⟨fun e he=>(h.1 e he).keep (Qm.of_mod hm hG),fun k hk=>Nat.lt_of_lt_of_le (h.2 k hk) hm.size⟩
theorem St.mNil {lo:Nat} {w0 w:World} {Rs:List Q3} (h:St lo w0 w Rs):St lo w0 w (mR []::Rs):=
 h.new (F:=fun _=>False) (Below.refl _ w) ⟨fun v hv=>(by cases hv),fun k hk=>hk.elim⟩ (fun k hk=>hk.elim)
theorem St.mAdd {lo:Nat} {w0 w w':World} {Rs:List Q3} {M:List We} {m:We} (h:St lo w0 w (mR M::Rs)) (hb:Below w.heap.size w w') (hs:Qr w' (fun k=>w.heap.size≤k) m.2 m.1.set):St lo w0 w' (mR (M++[m])::Rs):=by
 have y:St lo w0 w' (mR [m]::mR M::Rs):=h.new (F:=fun k=>w.heap.size≤k∧k<w'.heap.size) hb ⟨fun e he=>(by
  rw[List.mem_singleton.1 he]
  exact hs.lt),fun k hk=>hk.2⟩ (fun k hk=>hk.1)
 refine y.join fun F G hF hG=>⟨fun e he=>?_,fun k hk=>?_⟩
 ·rcases List.mem_append.1 he with he|he
  ·exact(hG.1 e he).mono fun k hk=>.inr hk
  ·exact(hF.1 e he).mono fun k hk=>.inl hk
 ·rcases hk with hk|hk
  ·exact hF.2 k hk
  ·exact hG.2 k hk
theorem Br:∀ M:List We,(M.flatMap Mp).length=M.length*2
 |[]=>rfl
 |r::X=>by rw[List.flatMap_cons,List.length_append,Br X,List.length_cons,Nat.succ_mul,Nat.add_comm];rfl
theorem St.reqsOf {lo:Nat} {w0 w:World} {Rs:List Q3} {A:Option Addr} {c n:Nat} {M:List We} (h:St lo w0 w (Ja 2 (.slice A n c) n (M.flatMap Mp)::mR M::Rs)) (hn:n=M.length):Qt w (fun k=>lo≤k) (.slice A n c) (M.map Prod.fst):=by subst hn;obtain⟨A',c',e,h1,h2⟩:=h.qu_form;obtain⟨-,-,rfl⟩:=Value.slice.inj e;obtain⟨F,g1,g2,-⟩:=h.tail.open;exact⟨A,c,M,rfl,rfl,h1,h2,h.quRd (Br M),fun m hm=>(g1.1 m hm).mono g2⟩
def rqR (v:Value) (L:List Tm.Qw):Q3 where
 P w F:=Qt w F v L∧∀ k,F k→k<w.heap.size
 lt h:=h.2
 mod h hm hG:=⟨h.1.keep (Qm.of_mod hm hG),fun k hk=>Nat.lt_of_lt_of_le (h.2 k hk) hm.size⟩
theorem St.joinRq {lo:Nat} {w0 w:World} {Rs:List Q3} {A:Option Addr} {c n:Nat} {M:List We} (h:St lo w0 w (Ja 2 (.slice A n c) n (M.flatMap Mp)::mR M::Rs)) (hn:n=M.length):St lo w0 w (rqR (.slice A n c) (M.map Prod.fst)::Rs):=h.join fun F G hF hG=>by
 subst hn;obtain⟨h1,h2,h3⟩:=quP_rd hF.1 (Br M);refine⟨⟨A,c,M,rfl,rfl,h2,h3,h1.mono fun k hk=>.inl hk,fun m hm=>(hG.1 m hm).mono fun k hk=>.inr hk⟩,fun k hk=>?_⟩;rcases hk with hk|hk
 ·exact hF.2 k hk
 ·exact hG.2 k hk
theorem St.newRq {lo:Nat} {w0 w w':World} {Rs:List Q3} {v:Value} {L:List Tm.Qw} (h:St lo w0 w Rs) (hb:Below w.heap.size w w') (hs:Qt w' (fun k=>w.heap.size≤k) v L):St lo w0 w' (rqR v L::Rs):=
 h.new (F:=fun k=>w.heap.size≤k∧k<w'.heap.size) hb ⟨hs.ltR,fun k hk=>hk.2⟩ (fun k hk=>hk.1)
theorem St.rq {lo:Nat} {w0 w:World} {Rs:List Q3} {v:Value} {L:List Tm.Qw} (h:St lo w0 w (rqR v L::Rs)):Qt w (fun k=>lo≤k) v L:=by obtain⟨F,h1,h2,-⟩:=h.open;exact h1.1.mono h2
theorem C7 (r:Qi) (F:Nat→Prop) (w:World) (h:Qt w F r.rv r.reqs) (hq:∀ q∈r.reqs,Zu q) (hl:r.reqs.length≤1048576):
 Calls prog 63 #[Fa r] w fun e w'=>∃ rv',e=.returned (Fa { r with rv:=rv' })∧Below w.heap.size w w'∧Qt w' (fun k=>w.heap.size≤k) rv' r.reqs:=by
 obtain⟨pa,ma,mi,pt,rq,rv,ar,ifc,ce,ya⟩:=r;unfold Fa Xi;dsimp only at h hq hl ⊢;obtain⟨A,c,M,rfl,rfl,-,-,hr,hm⟩:=h.ltR;rw[List.length_map] at hl;obtain⟨N,hN⟩:∃ N,M.length=N:=⟨_,rfl⟩;rw[hN] at hl ⊢;have y0:=((St.nil w).alloc 46 #[.string ⟨pa.toArray⟩,.int .i64 ma,.int .i64 mi,.int .i64 pt,.slice A N c,.string ⟨ar.toArray⟩,.string ⟨ifc.toArray⟩,.string ⟨ce.toArray⟩,.bool ya]).alloc 46 #[.string ⟨#[]⟩,.int .i64 0,.int .i64 0,.int .i64 0,.slice none 0 0,.string ⟨#[]⟩,.string ⟨#[]⟩,.string ⟨#[]⟩,.bool false];rw[World.size_alloc] at y0;obtain⟨W0,hW0⟩:∃ W,(w.alloc (.cells #[.string ⟨pa.toArray⟩,.int .i64 ma,.int .i64 mi,.int .i64 pt,.slice A N c,.string ⟨ar.toArray⟩,.string ⟨ifc.toArray⟩,.string ⟨ce.toArray⟩,.bool ya] 46)).alloc (.cells #[.string ⟨#[]⟩,.int .i64 0,.int .i64 0,.int .i64 0,.slice none 0 0,.string ⟨#[]⟩,.string ⟨#[]⟩,.string ⟨#[]⟩,.bool false] 46)=W:=⟨_,rfl⟩;rw[hW0] at y0;have x4:=(y0.pk [1]).blk.cell 4;have f4:=(y0.pk [1]).blk.frozen 4;have y1:=(y0.pk [1,0]).set_ 4 (.slice none 0 0);simp only[List.setIfInBounds_toArray,List.set_cons_zero,List.set_cons_succ] at y1;have y2:=(y1.quNil 2 43).mNil;have HM:=Kd4 hN hr hm (fun m (hm':m∈M)=>hq m.1 (List.mem_map.2 ⟨m,hm',rfl⟩));have Y2:=Kd y2;have HB:=Kd y0.below;have hNN:N≤9223372036854775807:=by omega
 clear hr hm hq hN y0 y1 y2;go_enter func63,ntmps63;go_wp2
 go_loopw [11] (fun i wr=>∃(k:Nat) (qA:Option Addr) (qC:Nat) (Q:List We),k≤N∧i=.int .i64 k∧Hid (Q.map Prod.fst=(M.take k).map Prod.fst)∧Hid (St w.heap.size w wr [Qa w.heap.size 46 #[.string ⟨pa.toArray⟩,.int .i64 ma,.int .i64 mi,.int .i64 pt,.slice qA k qC,.string ⟨ar.toArray⟩,.string ⟨ifc.toArray⟩,.string ⟨ce.toArray⟩,.bool ya],Ja 2 (.slice qA k qC) k (Q.flatMap Mp),mR Q,Qa (w.heap.size+1) 46 #[.string ⟨#[]⟩,.int .i64 0,.int .i64 0,.int .i64 0,.slice none 0 0,.string ⟨#[]⟩,.string ⟨#[]⟩,.string ⟨#[]⟩,.bool false]])) (fun i _=>N-(intOf i).toNat)
 case atStart=>exact⟨0,none,0,[],Nat.zero_le _,rfl,Kd rfl,Kd (Y2.out.pk [2,1,0,3])⟩
 case round=>
  obtain⟨k,qA,qC,Q,hk,rfl,hQ,hst⟩:=hrel;have hb1:=hst.out.below
  by_cases hlt:k<N
  ·obtain⟨hN,hr,hm,hq⟩:=HM.out
   have hkM:k<M.length :=(by omega);have kp:Qm (fun k=>F k∧k<w.heap.size) w wr:=Qm.under hb1 fun k hk=>hk.2;obtain⟨b,off,rfl,hbl,q0,q1⟩:=Jk (hr.keep kp) hkM;have hs:=(hm _ (List.getElem_mem hkM)).keep kp;have hsq:=hq _ (List.getElem_mem hkM);have htk:(M.take (k+1)).map Prod.fst=Q.map Prod.fst++[M[k].1] :=(by rw[List.take_succ_eq_append_getElem hkM,List.map_append,hQ.out];rfl);generalize M[k]=x at q0 q1 hs hsq htk;obtain⟨⟨qp,qs⟩,qv⟩:=x;dsimp only at q0 q1 hs hsq htk;obtain⟨As,ns,cs,rfl⟩:=hs.shape;have i0:(0:Int)≤(k:Int):=Int.natCast_nonneg _;have i1:(k:Int)<(N:Int):=Int.ofNat_lt.2 hlt;have y1:=hst.out.alloc 43 #[.string ⟨qp.toArray⟩,.slice As ns cs];obtain⟨g5,hg5⟩:∃ q,wr.heap.size=q:=⟨_,rfl⟩;obtain⟨W1,hW1⟩:∃ W,wr.alloc (.cells #[.string ⟨qp.toArray⟩,.slice As ns cs] 43)=W:=⟨_,rfl⟩;have kc:=Fi qs _ _ W1 (by rw[←hW1];exact hs.below (b1 wr _)) hsq.1;rw[hW1,hg5] at y1;have z1:=y1.blk.cell 1;have Y1:=Kd y1;have HT:=Kd2 htk hlt;clear hN hr hm hq hkM kp hs hsq htk y1 hst hb1;go_wp2_with fail;refine kc.mono ?_;rintro e w2 ⟨A2,c2,rfl,z2,hs2⟩;have y2:=((Y1.out.pk [3,0,1,2,4]).mAdd (m:=((⟨qp,qs⟩:Tm.Qw),(.slice A2 qs.length c2:Value))) z2 hs2).pk [1,0,2,3,4];obtain⟨l,hl'⟩:∃ n,qs.length=n:=⟨_,rfl⟩;have hrow:Q.flatMap Mp++[.string ⟨qp.toArray⟩,.slice A2 l c2]=(Q++[((⟨qp,qs⟩:Tm.Qw),(.slice A2 l c2:Value))]).flatMap Mp :=(by rw[List.flatMap_append];rfl);rw[hl'] at y2 ⊢;have u1:=y2.blk.cell 1;have f1:=y2.blk.frozen 1;have y3:=y2.set_ 1 (.slice A2 l c2);simp only[List.setIfInBounds_toArray,List.set_cons_zero,List.set_cons_succ] at y3;obtain⟨W3,hW3⟩:∃ W,w2.setCell ⟨g5,1,none⟩ (.slice A2 l c2)=W:=⟨_,rfl⟩;rw[hW3] at y3;have t0:=y3.blk.cell 0;have t1:=y3.blk.cell 1;have t4:=(y3.pk [2]).blk.cell 4;have y4:=y3.alloc 43 #[.string ⟨qp.toArray⟩,.slice A2 l c2];have HRD:=Kd y4.blkRd;have Y4:=Kd (y4.pk [4,3,2,5,0]);have hq1:k+1≤maxLen :=(by unfold maxLen;omega);have hq2:(k+1)*40≤140737488355328 :=(by omega);have hone:∀ u∈([.string ⟨qp.toArray⟩,.slice A2 l c2]:List Value),u.oneCell'=true:=fun u hu=>by simp at hu;rcases hu with rfl|rfl<;>rfl
   have HW:=Kd hrow;have z0:W1.cell? ⟨g5,0,none⟩=_:=Y1.out.blk.cell 0;clear kc z2 hs2 y2 y3 y4 hrow hl';go_wp2_with (at_builtin;go_must (refine Jw 26 Y4.out underlying26 Vy rfl HRD.out rfl (by decide) hone hq1 hq2 rfl _ _ rfl rfl rfl ?_);intro A5 c5 w5 h5;have t5:_=some _:=(h5.pk [1]).blk.cell 4;have f5:=(h5.pk [1]).blk.frozen 4);have y5:=(h5.pk [1,0,2,3]).set_ 4 (.slice A5 (k+1) c5);simp only[List.setIfInBounds_toArray,List.set_cons_zero,List.set_cons_succ] at y5;have Y5:=Kd y5;clear h5 t5 f5 y5 Y4 HRD hone hq1 hq2;go_wp2
   go_roundw
   case rel =>refine⟨k+1,A5,c5,Q++[((⟨qp,qs⟩:Tm.Qw),(.slice A2 l c2:Value))],Nat.succ_le_of_lt HT.out.2,by go_num,Kd (by rw[HT.out.1,List.map_append];rfl),Kd ?_⟩;rw[←HW.out];exact Y5.out
   case measure=>have:=HT.out.2;simp[intOf];omega
  ·obtain rfl:k=N:=Nat.le_antisymm hk (Nat.le_of_not_lt hlt)
   have hge:decide ((k:Int)<(k:Int))=false :=(by simp);have hQ:=hQ.out;rw[List.take_of_length_le (Nat.le_of_eq HM.out.1)] at hQ;have hql:Q.length=k :=(by have:=congrArg List.length hQ;rw[List.length_map,List.length_map,HM.out.1] at this;exact this);have hrq:=(hst.out.pk [1,2]).reqsOf hql.symm;rw[hQ] at hrq;obtain⟨a0,a1,a2,a3,a4,a5,a6,a7,a8⟩:=Ip hst.out.blk;obtain⟨c0,c1,c2,c3,c4,c5,c6,c7,c8⟩:=Ip (hst.out.pk [3]).blk;obtain⟨g0,g1,g2,g3,g4,g5,g6,g7,g8⟩:=bk9f (hst.out.pk [3]).blk;have yz:=((((((((((hst.out.pk [3,1,2]).set_ 0 (.string ⟨pa.toArray⟩)).set_ 1 (.int .i64 ma)).set_ 2 (.int .i64 mi)).set_ 3 (.int .i64 pt)).set_ 4 (.slice qA k qC)).set_ 5 (.string ⟨ar.toArray⟩)).set_ 6 (.string ⟨ifc.toArray⟩)).set_ 7 (.string ⟨ce.toArray⟩)).set_ 8 (.bool ya));simp only[List.setIfInBounds_toArray,List.set_cons_zero,List.set_cons_succ] at yz;have YZ:=Kd yz;have HZ:=Kd2 hQ hql;clear yz hrq hql hQ hst;go_wp2;refine bodyPost_ret (Jc rfl _ _ _ _ _ _ _ rfl YZ.out.blk underlying46 rfl (by kernel_rfl)) rfl ?_;refine⟨_,rfl,YZ.out.below,?_⟩;rw[←HZ.out.1];exact YZ.out.tail.reqsOf HZ.out.2.symm
theorem Ym (w:World):(zeroValue 46).run prog w=.ok (.agg #[.string ⟨#[]⟩,.int .i64 0,.int .i64 0,.int .i64 0,.slice none 0 0,.string ⟨#[]⟩,.string ⟨#[]⟩,.string ⟨#[]⟩,.bool false]) w:=by kernel_rfl
theorem Au:(prog.info? 46).map (·.size)=some 9:=by kernel_rfl
theorem Ex (X:List Qi) (v:Value) (iA:Option Addr) (iN iC:Nat) (F:Nat→Prop) (s:Zy) (r:Qi) (w:World) (h:Qx w F v X) (hs:Wp X) (hX:X.length≤1048576) (hR:∀ r∈X,K9 r) (hg:Ji w) (hok:Gc X=0) (hks:M0 s) (hf:X.reverse.find? (fun r=>decide (Zg r=s))=some r):
 Calls prog 33 #[.agg #[v,.slice iA iN iC],.string ⟨s.1.toArray⟩,.agg #[.int .i64 s.2.1,.int .i64 s.2.2.1,.int .i64 s.2.2.2]] w fun e w'=>∃ rv',e=.returned (.tuple #[Fa { r with rv:=rv' },.bool true])∧Below w.heap.size w w'∧Qt w' (fun k=>w.heap.size≤k) rv' r.reqs:=by
 obtain⟨A,c,rfl,-,-,-,hq⟩:=id h;have hrX:r∈X:=List.mem_reverse.1 (List.mem_of_find?_eq_some hf);have y0:=(((St.nil w).alloc 25 #[.slice A X.length c,.slice iA iN iC]).alloc 36 #[.int .i64 s.2.1,.int .i64 s.2.2.1,.int .i64 s.2.2.2]).alloc 46 #[.string ⟨#[]⟩,.int .i64 0,.int .i64 0,.int .i64 0,.slice none 0 0,.string ⟨#[]⟩,.string ⟨#[]⟩,.string ⟨#[]⟩,.bool false];simp only[World.size_alloc] at y0;have kt:=fun W (hW:Below w.heap.size w W)=>Yj X _ iA iN iC F W (h.below hW) hs hX (hg.below hW) hok;have kcl:=fun W (hW:Below w.heap.size w W)=>C7 r (fun k=>F k∧k<w.heap.size) W ((hq r hrX).ltR.keep (Qm.under hW fun k hk=>hk.2)) (hs r hrX).reqs (hR r hrX).1;obtain⟨N,hN⟩:∃ N,X.length=N:=⟨_,rfl⟩;rw[hN] at kt y0 ⊢;obtain⟨A',n',c',hrv⟩:∃ A n c,r.rv=.slice A n c:=by obtain⟨A,c,M,-,e,-⟩:=hq r hrX;exact⟨A,_,c,e⟩
 obtain⟨W0,hW0⟩:∃ W,((w.alloc (.cells #[.slice A N c,.slice iA iN iC] 25)).alloc (.cells #[.int .i64 s.2.1,.int .i64 s.2.2.1,.int .i64 s.2.2.2] 36)).alloc (.cells #[.string ⟨#[]⟩,.int .i64 0,.int .i64 0,.int .i64 0,.slice none 0 0,.string ⟨#[]⟩,.string ⟨#[]⟩,.string ⟨#[]⟩,.bool false] 46)=W:=⟨_,rfl⟩;rw[hW0] at y0;have kt:=kt W0 y0.below;have x0:=(y0.pk [2]).blk.cell 0;have x1:=(y0.pk [2]).blk.cell 1;have hkey:=Db hks;unfold Ot Wm at hkey;have HK:=Kd4 kcl hks hf hN;have Y0:=Kd y0;clear h hs hX hR hg hok hks hf hq hrX y0 kcl hN;obtain⟨sp,sa,sb,sc⟩:=s;dsimp only at hkey hW0 ⊢;go_enter func33,ntmps33;go_wp2_with fail;refine kt.mono ?_;rintro e w1 ⟨b1,b2,n1,n2,M1,M2,R,rfl,hT,-,-,y1⟩;have y2:St w.heap.size w w1 ([Qa (w.heap.size+1+1) 46 #[.string ⟨#[]⟩,.int .i64 0,.int .i64 0,.int .i64 0,.slice none 0 0,.string ⟨#[]⟩,.string ⟨#[]⟩,.string ⟨#[]⟩,.bool false],Qa (w.heap.size+1) 36 #[.int .i64 sa,.int .i64 sb,.int .i64 sc],Qa w.heap.size 25 #[.slice A N c,.slice iA iN iC]]++([Zw 38 b1 n1 M1,Zw 9 b2 n2 M2]++R.map Ft)):=(Y0.out.graft y1).permR List.perm_append_comm;have hM:=hT _ HK.out.2.1;rw[List.take_length,HK.out.2.2.1] at hM;have hM:M1 (G2 (sp,sa,sb,sc))=some (Fa r):=hM;have y3:=y2.alloc 129 #[.map (some b1),.map (some b2)];have lk0:=(y3.pk [4]).mp.look_ok Ia underlying126 (Ym _) hkey;rw[hM] at lk0;have lk:(Instr.lookup 126 (.map (some b1)) (.agg #[.string ⟨sp.toArray⟩,.int .i64 sa,.int .i64 sb,.int .i64 sc]) true).run prog (w1.alloc (.cells #[.map (some b1),.map (some b2)] 129))=.ok (.tuple #[Fa r,.bool true]) (w1.alloc (.cells #[.map (some b1),.map (some b2)] 129))   := lk0;have v0:=(y2.pk [1]).blk.cell 0;have v1:=(y2.pk [1]).blk.cell 1;have v2:=(y2.pk [1]).blk.cell 2;have vl:=(y2.pk [1]).blk.lt;obtain⟨pa,ma,mi,pt,rq,rv,ar,ifc,ce,ya⟩:=r;dsimp only at hrv;subst hrv;unfold Fa Xi at lk;dsimp only at lk;have kcl:=fun W hW=>HK.out.1 W hW;unfold Fa Xi at kcl;dsimp only at kcl;have y4:=(y3.pk [1]).alloc 46 #[.string ⟨pa.toArray⟩,.int .i64 ma,.int .i64 mi,.int .i64 pt,.slice A' n' c',.string ⟨ar.toArray⟩,.string ⟨ifc.toArray⟩,.string ⟨ce.toArray⟩,.bool ya];have kc:=kcl _ y4.below;rw[World.size_alloc] at y4;have Y4:=Kd y4;have e1:w1.heap.size=w1.heap.size:=rfl;clear lk0 kt y1 y2 hT hM y3 kcl e1 y4 x0 x1 hW0;go_wp2_with fail;refine kc.mono ?_;rintro e w2 ⟨rv',rfl,z2,hrq⟩;obtain⟨qA,qC,Q,hQ,rfl,-⟩:=id hrq;obtain⟨qN,hqN⟩:∃ n,Q.length=n:=⟨_,rfl⟩;rw[hqN] at hrq ⊢;have ye:=((Y4.out.newRq z2 hrq).pk [2,0]);obtain⟨u0,u1,u2,u3,u4,u5,u6,u7,u8⟩:=Ip ye.blk;obtain⟨f0,f1,f2,f3,f4,f5,f6,f7,f8⟩:=bk9f ye.blk;have YE:=Kd ye;clear kc z2 hrq ye hQ hqN lk v0 v1 v2 vl hkey;go_wp2;have yz:=(((((((((YE.out.set_ 0 (.string ⟨pa.toArray⟩)).set_ 1 (.int .i64 ma)).set_ 2 (.int .i64 mi)).set_ 3 (.int .i64 pt)).set_ 4 (.slice qA qN qC)).set_ 5 (.string ⟨ar.toArray⟩)).set_ 6 (.string ⟨ifc.toArray⟩)).set_ 7 (.string ⟨ce.toArray⟩)).set_ 8 (.bool ya));simp only[List.setIfInBounds_toArray,List.set_cons_zero,List.set_cons_succ] at yz;refine bodyPost_ret (Jv rfl _ _ _ _ _ _ _ rfl yz.blk underlying46 rfl Au) rfl ?_;exact⟨_,rfl,yz.below,yz.tail.rq⟩
abbrev EntV:=Zy×Tm.Qk×Tm.Qk
def enC (x:EntV):List Value:=Wm x.1++[.string ⟨x.2.1.toArray⟩,.string ⟨x.2.2.toArray⟩]
theorem enC_flat:∀ S:List EntV,(S.flatMap enC).length=S.length*6
 |[]=>rfl
 |r::X=>by rw[List.flatMap_cons,List.length_append,enC_flat X,List.length_cons,Nat.succ_mul,Nat.add_comm];rfl
theorem se_cells {w:World} {F:Nat→Prop} {A:Option Addr} {L:List Zy} (h:Z9 w F A (L.flatMap Wm)) {j:Nat} (hj:j<L.length):∃ b off,A=some ⟨b,off,none⟩∧b<w.heap.size∧w.cell? ⟨b,off+j*4,none⟩=some (.string ⟨L[j].1.toArray⟩)∧w.cell? ⟨b,off+j*4+1,none⟩=some (.int .i64 L[j].2.1)∧w.cell? ⟨b,off+j*4+2,none⟩=some (.int .i64 L[j].2.2.1)∧w.cell? ⟨b,off+j*4+3,none⟩=some (.int .i64 L[j].2.2.2):=by obtain⟨b,off,e,_,h1,h2⟩:=h.get (fun _=>rfl) hj (k:=4) (by decide);exact⟨b,off,e,h1,h2 0 _ rfl,h2 1 _ rfl,h2 2 _ rfl,h2 3 _ rfl⟩
def relOf (X:List Qi) (s:Zy):Option Qi:=X.reverse.find? fun r=>decide (Zg r=s)
def N5 (X:List Qi) (s:Zy):EntV:=(s,((relOf X s).map (·.arch)).getD [],((relOf X s).map (·.iface)).getD [])
theorem relOf_mem {X:List Qi} {r:Qi} (h:r∈X):∃ r',relOf X (Zg r)=some r'∧r'∈X∧Zg r'=Zg r:=by
 unfold relOf
 cases hf:X.reverse.find? (fun x=>decide (Zg x=Zg r)) with
 |none =>have:=List.find?_eq_none.1 hf r (List.mem_reverse.2 h);simp at this
 |some r' =>refine⟨r',rfl,List.mem_reverse.1 (List.mem_of_find?_eq_some hf),?_⟩;have:=List.find?_some hf;simpa using this
theorem okKS_of {X:List Qi} (hs:Wp X) (hok:Gc X=0) {r:Qi} (hr:r∈X):M0 (Zg r):=by have h1:=Dv hok r hr;obtain⟨-,-,h2,h3,h4,h5⟩:=Wk h1;unfold O1 Mq at h1;simp only[Bool.and_eq_true] at h1;have:=X7 h1.1;exact⟨(hs r hr).path,by show _≤r.major∧r.major≤_;omega,by show _≤r.minor∧r.minor≤_;omega,by show _≤r.patch∧r.patch≤_;omega⟩
theorem info_ent:(prog.info? 84).map (fun i=>(i.zero,i.size,i.bytes))=some (some (.agg #[.string ⟨#[]⟩,.int .i64 0,.int .i64 0,.int .i64 0,.string ⟨#[]⟩,.string ⟨#[]⟩]),6,72):=by kernel_rfl
theorem size_lock:(prog.info? 51).map (·.size)=some 4:=by kernel_rfl
theorem found_len {X:List Qi} {roots:List Tm.Qw} (h16:X.length≤16) {d:List Tm.Qp} {t:List Tm.Ol} {k:Nat} {S:Tm.Qv} (hres:Tm.Za (X.map Qf) roots 17 Tm.Zl []=(some (d,t),k,S)):d.length≤16:=by
 obtain⟨⟨h1,h2,-⟩,-⟩:=Tm.Xr (x:=X.map Qf) roots 17 Tm.Zl [] d t k S ⟨fun c hc=>(by cases hc),List.Pairwise.nil,fun n hn c hc=>(by cases hc)⟩ hres;have:=Gk (d.map (·.path)) ((X.map Qf).map (·.path)) (List.pairwise_map.2 h2) fun a ha=>by obtain⟨c,hc,rfl⟩:=List.mem_map.1 ha;exact List.mem_map.2 ⟨c,(h1 c hc).1,rfl⟩
 simp only[List.length_map] at this;omega
def MakeP (X:List Qi) (roots:List Tm.Qw) (w:World) (e:Ending) (w':World):Prop:=
 ∃ (d:List Tm.Qp) (t:List Tm.Ol) (k:Nat) (S:Tm.Qv),Tm.Za (X.map Qf) roots 17 Tm.Zl []=(some (d,t),k,S)∧∃(rqA:Option Addr) (rqC':Nat) (eA:Option Addr) (eC:Nat) (jA:Option Addr) (jC:Nat) (kA:Option Addr) (kC:Nat) (xs:List Value) (L:List Zy) (D:List Qi),
   e=.returned (.tuple #[.agg #[.slice rqA roots.length rqC',.slice eA L.length eC,.slice jA S.infs.length jC,.slice kA t.length kC],.int .i64 0])∧D.map Qf=d∧(∀ r∈D,r∈X)∧L.Perm (D.map Zg)∧L.Pairwise (fun x y=>Tm.Jr y.1 x.1=false)∧L.length≤eC∧eC≤maxLen∧S.infs.length≤jC∧jC≤maxLen∧xs.length=t.length*3∧t.length≤kC∧kC≤maxLen∧(∀ i∈S.infs,Vv i)∧S.infs.length≤65536∧
   St w.heap.size w w' [rqR (.slice rqA roots.length rqC') roots,Xl eA ((L.map (N5 X)).flatMap enC),Xl jA (S.infs.flatMap Xj),Xl kA xs]
theorem make_spec (X:List Qi) (roots:List Tm.Qw) (v rv:Value) (iA:Option Addr) (iN iC:Nat) (F:Nat→Prop) (w:World) (h:Qx w F v X) (h2:Qt w F rv roots) (hs:Wp X) (hR:∀ r∈X,K9 r) (hs2:∀ q∈roots,Zu q) (h16:X.length≤16) (hv:Wr X roots=true) (hg:Ji w) (d:List Tm.Qp) (t:List Tm.Ol) (k0:Nat) (S:Tm.Qv) (hres:Tm.Za (X.map Qf) roots 17 Tm.Zl []=(some (d,t),k0,S)):
 Calls prog 13 #[.agg #[v,.slice iA iN iC],rv] w (MakeP X roots w):=by
 have k1:=fun W (hW:Below w.heap.size w W)=>Ns X roots v rv iA iN iC F F W (h.below hW) (h2.below hW) hs hs2 h16 hv (hg.below hW);have k2:=fun W (hW:Below w.heap.size w W)=>Ya X roots v rv iA iN iC F F W (h.below hW) (h2.below hW) hs hs2 h16 hv (hg.below hW);unfold Ha at k1;unfold K8 at k2;rw[hres] at k1 k2;have HD16':=Kd (found_len h16 hres);have k3:=fun (s:Zy) (r:Qi) W (hW:Below w.heap.size w W)=>Ex X v iA iN iC F s r W (h.below hW) hs (by omega) hR (hg.below hW) (Xp hv).1;have hokk:=fun r (hr:r∈X)=>okKS_of hs (Xp hv).1 hr;obtain⟨A,c,rfl,-,-,-,-⟩:=id h;obtain⟨rA,rC,Mr,eMr,rfl,-,-,hrd,hrm⟩:=h2.ltR;obtain⟨N,hN⟩:∃ N,X.length=N:=⟨_,rfl⟩;obtain⟨rN,hrN⟩:∃ n,Mr.length=n:=⟨_,rfl⟩;have hrl:rN≤16:=by have:=Gb (Xp hv).2;rw[←eMr,List.length_map,hrN] at this;exact this
 have y0:=((St.nil w).alloc 25 #[.slice A X.length c,.slice iA iN iC]).alloc 51 #[.slice none 0 0,.slice none 0 0,.slice none 0 0,.slice none 0 0];rw[World.size_alloc] at y0;rw[hN] at k1 k2 k3 y0 ⊢;rw[hrN] at k1 k2 ⊢;obtain⟨W0,hW0⟩:∃ W,(w.alloc (.cells #[.slice A N c,.slice iA iN iC] 25)).alloc (.cells #[.slice none 0 0,.slice none 0 0,.slice none 0 0,.slice none 0 0] 51)=W:=⟨_,rfl⟩;rw[hW0] at y0;have k1:=k1 W0 y0.below;have x0:=(y0.pk [1]).blk.cell 0;have x1:=(y0.pk [1]).blk.cell 1;have HM:=Kd5 eMr hrN hrd hrm (fun m (hm:m∈Mr)=>hs2 m.1 (by rw[←eMr];exact List.mem_map.2 ⟨m,hm,rfl⟩));have HK:=Kd4 k2 k3 hokk hres;have Y0:=Kd y0;clear h h2 hs hR hs2 h16 hv hg hres k2 k3 hokk eMr hrd hrm hN hrN y0;go_enter func13,ntmps13;go_wp2_with fail;refine k1.mono ?_;rintro e w1 ⟨sA0,sC0,L0,D0,rfl,-,-,-,-,-,-,y1⟩;have y1:=Y0.out.under y1.below;have k2:=HK.out.1 w1 y1.below;have x0:=(y1.pk [1]).blk.cell 0;have x1:=(y1.pk [1]).blk.cell 1;have Y1:=Kd y1;clear k1 y1 Y0 hW0;go_wp2_with fail;refine k2.mono ?_;rintro e w2 ⟨sA,sC,jA,jC,kA,kC,xs,L,D,rfl,hd,hDX,hp,hsrt,h1,h2,h3,h4,h5,h6,h7,h8,h9,y2⟩;obtain⟨n,hn⟩:∃ n,L.length=n:=⟨_,rfl⟩;obtain⟨m,hm⟩:∃ n,S.infs.length=n:=⟨_,rfl⟩;obtain⟨l,hl⟩:∃ n,t.length=n:=⟨_,rfl⟩;rw[hn,hm,hl];have HE:=Kd (And.intro hd (And.intro hDX (And.intro hp (And.intro hsrt (And.intro h1 (And.intro h2 (And.intro h3 (And.intro h4 (And.intro h5 (And.intro h6 (And.intro h7 (And.intro h8 (And.intro h9 (And.intro hn (And.intro hm hl)))))))))))))));have HD16:Hid (n≤16):=Kd (by rw[←hn,hp.length_eq,List.length_map];have:=HD16'.out;rw[←hd,List.length_map] at this;exact this);obtain⟨pa,hpa⟩:∃ q,w2.heap.size=q:=⟨_,rfl⟩;obtain⟨pl,hpl⟩:∃ q,pa+1=q:=⟨_,rfl⟩;have y3:=(((Y1.out.graft y2).alloc 75 #[.bool true,.slice sA n sC,.slice jA m jC,.slice kA l kC]).alloc 51 #[.slice none 0 0,.slice none 0 0,.slice jA m jC,.slice kA l kC]);rw[World.size_alloc,hpa,hpl] at y3;have y4:=(y3.quNil 2 43).mNil;have Y4:=Kd (y4.pk [2,1,0,4,5,6,8,7,3]);have hnn:rN≤9223372036854775807:=by omega
 clear k2 hd hDX hp hsrt h1 h2 h3 h4 h5 h6 h7 h8 h9 hn hm hl y2 y3 y4 x0 x1 Y1;go_wp2;clear hpa hpl
 go_loopw [44] (fun i wr=>∃(k:Nat) (rqA:Option Addr) (rqC':Nat) (Q:List We),k≤rN∧i=.int .i64 k∧Hid (Q.map Prod.fst=(Mr.take k).map Prod.fst)∧Hid (St w.heap.size w wr [Qa pl 51 #[.slice rqA k rqC',.slice none 0 0,.slice jA m jC,.slice kA l kC],Ja 2 (.slice rqA k rqC') k (Q.flatMap Mp),mR Q,Xl sA (L.flatMap Wm),Xl jA (S.infs.flatMap Xj),Xl kA xs,Qa w.heap.size 25 #[.slice A N c,.slice iA iN iC],Qa (w.heap.size+1) 51 #[.slice none 0 0,.slice none 0 0,.slice none 0 0,.slice none 0 0],Qa pa 75 #[.bool true,.slice sA n sC,.slice jA m jC,.slice kA l kC]])) (fun i _=>rN-(intOf i).toNat)
 case atStart=>exact⟨0,none,0,[],Nat.zero_le _,rfl,Kd rfl,Y4⟩
 case round=>
  obtain⟨k,rqA,rqC',Q,hk,rfl,hQ,hst⟩:=hrel;have hb1:=hst.out.below
  by_cases hlt:k<rN
  ·obtain⟨-,hN,hr,hm,hq⟩:=HM.out
   have hkM:k<Mr.length :=(by omega);have kp:Qm (fun k=>F k∧k<w.heap.size) w wr:=Qm.under hb1 fun k hk=>hk.2;obtain⟨b,off,rfl,hbl,q0,q1⟩:=Jk (hr.keep kp) hkM;have hs:=(hm _ (List.getElem_mem hkM)).keep kp;have hsq:=hq _ (List.getElem_mem hkM);have htk:(Mr.take (k+1)).map Prod.fst=Q.map Prod.fst++[Mr[k].1] :=(by rw[List.take_succ_eq_append_getElem hkM,List.map_append,hQ.out];rfl);generalize Mr[k]=x at q0 q1 hs hsq htk;obtain⟨⟨qp,qs⟩,qv⟩:=x;dsimp only at q0 q1 hs hsq htk;obtain⟨As,ns,cs,rfl⟩:=hs.shape;have i0:(0:Int)≤(k:Int):=Int.natCast_nonneg _;have i1:(k:Int)<(rN:Int):=Int.ofNat_lt.2 hlt;have y1:=hst.out.alloc 43 #[.string ⟨qp.toArray⟩,.slice As ns cs];obtain⟨g5,hg5⟩:∃ q,wr.heap.size=q:=⟨_,rfl⟩;obtain⟨W1,hW1⟩:∃ W,wr.alloc (.cells #[.string ⟨qp.toArray⟩,.slice As ns cs] 43)=W:=⟨_,rfl⟩;have kc:=Fi qs _ _ W1 (by rw[←hW1];exact hs.below (b1 wr _)) hsq.1;rw[hW1,hg5] at y1;have z1:=y1.blk.cell 1;have Y1:=Kd y1;have HT:=Kd2 htk hlt;clear hN hr hm hq hkM kp hs hsq htk y1 hst hb1;go_wp2_with fail;refine kc.mono ?_;rintro e w2 ⟨A2,c2,rfl,z2,hs2⟩;have y2:=((Y1.out.pk [3,0,1,2,4,5,6,7,8,9]).mAdd (m:=((⟨qp,qs⟩:Tm.Qw),(.slice A2 qs.length c2:Value))) z2 hs2).pk [1,0,2,3,4,5,6,7,8,9];obtain⟨ll,hl'⟩:∃ n,qs.length=n:=⟨_,rfl⟩;have hrow:Q.flatMap Mp++[.string ⟨qp.toArray⟩,.slice A2 ll c2]=(Q++[((⟨qp,qs⟩:Tm.Qw),(.slice A2 ll c2:Value))]).flatMap Mp :=(by rw[List.flatMap_append];rfl);rw[hl'] at y2 ⊢;have u1:=y2.blk.cell 1;have f1:=y2.blk.frozen 1;have y3:=y2.set_ 1 (.slice A2 ll c2);simp only[List.setIfInBounds_toArray,List.set_cons_zero,List.set_cons_succ] at y3;obtain⟨W3,hW3⟩:∃ W,w2.setCell ⟨g5,1,none⟩ (.slice A2 ll c2)=W:=⟨_,rfl⟩;rw[hW3] at y3;have t0:=y3.blk.cell 0;have t1:=y3.blk.cell 1;have t4:=(y3.pk [2]).blk.cell 0;have y4:=y3.alloc 43 #[.string ⟨qp.toArray⟩,.slice A2 ll c2];have HRD:=Kd y4.blkRd;have Y4:=Kd (y4.pk [4,3,2,5,6,7,8,9,10,0]);have hq1:k+1≤maxLen :=(by unfold maxLen;omega);have hq2:(k+1)*40≤140737488355328 :=(by omega);have hone:∀ u∈([.string ⟨qp.toArray⟩,.slice A2 ll c2]:List Value),u.oneCell'=true:=fun u hu=>by simp at hu;rcases hu with rfl|rfl<;>rfl
   have HW:=Kd hrow;have z0:W1.cell? ⟨g5,0,none⟩=_:=Y1.out.blk.cell 0;clear kc z2 hs2 y2 y3 y4 hrow hl';go_wp2_with (at_builtin;go_must (refine Jw 26 Y4.out underlying26 Vy rfl HRD.out rfl (by decide) hone hq1 hq2 rfl _ _ rfl rfl rfl ?_);intro A5 c5 w5 h5;have t5:_=some _:=(h5.pk [1]).blk.cell 0;have f5:=(h5.pk [1]).blk.frozen 0);have y5:=(h5.pk [1,0,2,3,4,5,6,7,8]).set_ 0 (.slice A5 (k+1) c5);simp only[List.setIfInBounds_toArray,List.set_cons_zero] at y5;have Y5:=Kd y5;clear h5 t5 f5 y5 Y4 HRD hone hq1 hq2;go_wp2
   go_roundw
   case rel =>refine⟨k+1,A5,c5,Q++[((⟨qp,qs⟩:Tm.Qw),(.slice A2 ll c2:Value))],Nat.succ_le_of_lt HT.out.2,by go_num,Kd (by rw[HT.out.1,List.map_append];rfl),Kd ?_⟩;rw[←HW.out];exact Y5.out
   case measure=>have:=HT.out.2;simp[intOf];omega
  ·obtain rfl:k=rN:=Nat.le_antisymm hk (Nat.le_of_not_lt hlt)
   have hge:decide ((k:Int)<(k:Int))=false :=(by simp);have hQ:=hQ.out;rw[List.take_of_length_le (Nat.le_of_eq HM.out.2.1)] at hQ;have hql:Q.length=k :=(by have:=congrArg List.length hQ;rw[List.length_map,List.length_map,HM.out.2.1] at this;exact this);have hrl':roots.length=k :=(by rw[←HM.out.1,List.length_map,HM.out.2.1]);have yq:=(hst.out.pk [1,2,0,3,4,5,6,7,8]).joinRq hql.symm;rw[hQ,HM.out.1] at yq;have yl:=yq.quNil 6 84;have YL:=Kd (yl.pk [2,0,1,3,4,5,6,7,8]);have an1:=(yl.pk [8]).blk.cell 1;have HRL:=Kd hrl';have hnb:n≤9223372036854775807 :=(by have:=HE.out.2.2.2.2.1;have:=HE.out.2.2.2.2.2.1;have:=HE.out.2.2.2.2.2.2.2.2.2.2.2.2.2.1;unfold maxLen at *;omega);clear hQ hql hrl' yq yl hst hb1;go_wp2;clear an1
   go_loopw [62] (fun i wr=>∃(j:Nat) (eA:Option Addr) (eC:Nat),j≤n∧i=.int .i64 j∧Hid (St w.heap.size w wr [Qa pl 51 #[.slice rqA k rqC',.slice eA j eC,.slice jA m jC,.slice kA l kC],Ja 6 (.slice eA j eC) j (((L.take j).map (N5 X)).flatMap enC),rqR (.slice rqA k rqC') roots,Xl sA (L.flatMap Wm),Xl jA (S.infs.flatMap Xj),Xl kA xs,Qa w.heap.size 25 #[.slice A N c,.slice iA iN iC],Qa (w.heap.size+1) 51 #[.slice none 0 0,.slice none 0 0,.slice none 0 0,.slice none 0 0],Qa pa 75 #[.bool true,.slice sA n sC,.slice jA m jC,.slice kA l kC]])) (fun i _=>n-(intOf i).toNat)
   case atStart=>exact⟨0,none,0,Nat.zero_le _,rfl,YL⟩
   case round=>
    obtain⟨j,eA,eC,hj,rfl,hst⟩:=hrel
    by_cases hlt:j<n
    ·obtain⟨hd,hDX,hp,-,-,-,-,-,-,-,-,-,-,hn,-⟩:=HE.out
     have hjL:j<L.length :=(by omega);obtain⟨bs,os,rfl,hbs,s0,s1,s2,s3⟩:=se_cells (hst.out.pk [3]).ro hjL;have htk:(L.take (j+1)).map (N5 X)=(L.take j).map (N5 X)++[N5 X L[j]] :=(by rw[List.take_succ_eq_append_getElem hjL,List.map_append];rfl);obtain⟨r1,hr1,hr2⟩:=List.mem_map.1 (hp.mem_iff.1 (List.getElem_mem hjL));obtain⟨r,hf,hrX,-⟩:=relOf_mem (hDX r1 hr1);rw[hr2] at hf;have hks:=HK.out.2.2.1 r1 (hDX r1 hr1);rw[hr2] at hks;have hen:N5 X L[j]=(L[j],r.arch,r.iface) :=(by unfold N5;rw[hf];rfl);rw[hen] at htk;generalize L[j]=s at s0 s1 s2 s3 htk hf hks;have k3:=fun W hW=>HK.out.2.1 s r W hW hks hf;obtain⟨sp,sa,sb,sc⟩:=s;dsimp only at s0 s1 s2 s3 k3;obtain⟨ip,pth2,maj2,min2⟩:∃ a b c d:Nat,True:=⟨0,0,0,0,trivial⟩;have i0:(0:Int)≤(j:Int):=Int.natCast_nonneg _;have i1:(j:Int)<(n:Int):=Int.ofNat_lt.2 hlt;have y1:=hst.out.alloc 38 #[.string ⟨sp.toArray⟩,.int .i64 sa,.int .i64 sb,.int .i64 sc];obtain⟨g5,hg5⟩:∃ q,wr.heap.size=q:=⟨_,rfl⟩;obtain⟨W1,hW1⟩:∃ W,wr.alloc (.cells #[.string ⟨sp.toArray⟩,.int .i64 sa,.int .i64 sb,.int .i64 sc] 38)=W:=⟨_,rfl⟩;rw[hW1,hg5] at y1;have k3:=k3 W1 y1.below;have x0:=(y1.pk [7]).blk.cell 0;have x1:=(y1.pk [7]).blk.cell 1;have e0:=y1.blk.cell 0;have e1:=y1.blk.cell 1;have e2:=y1.blk.cell 2;have e3:=y1.blk.cell 3;obtain⟨pa',ma,mi,pt,rq,rv',ar,ifc,ce,ya⟩:=r;unfold Fa Xi at k3;dsimp only at k3 htk;have Y1:=Kd y1;have HT:=Kd2 htk hlt;clear hd hDX hp hn hjL hbs htk hr1 hr2 hf hrX hks hen y1 hst;go_wp2_with fail;refine k3.mono ?_;rintro e w2 ⟨rv2,rfl,z2,hrq⟩;obtain⟨qA,qC,Q2,-,rfl,-⟩:=id hrq;obtain⟨qN,hqN⟩:∃ n,Q2.length=n:=⟨_,rfl⟩;rw[hqN];have y2:=Y1.out.under z2;have e0:=y2.blk.cell 0;have e1:=y2.blk.cell 1;have e2:=y2.blk.cell 2;have e3:=y2.blk.cell 3;have y3:=y2.alloc 46 #[.string ⟨pa'.toArray⟩,.int .i64 ma,.int .i64 mi,.int .i64 pt,.slice qA qN qC,.string ⟨ar.toArray⟩,.string ⟨ifc.toArray⟩,.string ⟨ce.toArray⟩,.bool ya];obtain⟨g6,hg6⟩:∃ q,w2.heap.size=q:=⟨_,rfl⟩;obtain⟨W2,hW2⟩:∃ W,w2.alloc (.cells #[.string ⟨pa'.toArray⟩,.int .i64 ma,.int .i64 mi,.int .i64 pt,.slice qA qN qC,.string ⟨ar.toArray⟩,.string ⟨ifc.toArray⟩,.string ⟨ce.toArray⟩,.bool ya] 46)=W:=⟨_,rfl⟩;have y4:=y3.alloc 84 #[.string ⟨sp.toArray⟩,.int .i64 sa,.int .i64 sb,.int .i64 sc,.string ⟨ar.toArray⟩,.string ⟨ifc.toArray⟩];rw[hW2,hg6] at y3;rw[hW2,hg6] at y4;have r5:=y3.blk.cell 5;have r6:=y3.blk.cell 6;have d0:=y3.tail.blk.cell 0;have d1:=y3.tail.blk.cell 1;have d2:=y3.tail.blk.cell 2;have d3:=y3.tail.blk.cell 3;have l1:=(y3.pk [2]).blk.cell 1;have HRD:=Kd y4.blkRd;have Y4:=Kd (y4.pk [4,3,5,6,7,8,9,10,11,0]);have hq1:j+1≤maxLen :=(by have:=HE.out.2.2.2.2.1;have:=HE.out.2.2.2.2.2.1;have:=HE.out.2.2.2.2.2.2.2.2.2.2.2.2.2.1;omega);have hq2:(j+1)*72≤140737488355328 :=(by have:=HD16.out;omega);have hone:∀ u∈([.string ⟨sp.toArray⟩,.int .i64 sa,.int .i64 sb,.int .i64 sc,.string ⟨ar.toArray⟩,.string ⟨ifc.toArray⟩]:List Value),u.oneCell'=true:=fun u hu=>by simp at hu;rcases hu with rfl|rfl|rfl|rfl|rfl|rfl<;>rfl
     clear k3 z2 hrq y2 y3 y4 hqN;go_wp2_with (at_builtin;go_must (refine Jw 47 Y4.out underlying47 info_ent rfl HRD.out rfl (by decide) hone hq1 hq2 rfl _ _ rfl rfl rfl ?_);intro A5 c5 w5 h5;have t5:_=some _:=(h5.pk [1]).blk.cell 1;have f5:=(h5.pk [1]).blk.frozen 1);have y5:=(h5.pk [1,0,2,3,4,5,6,7,8]).set_ 1 (.slice A5 (j+1) c5);simp only[List.setIfInBounds_toArray,List.set_cons_zero,List.set_cons_succ] at y5;have Y5:=Kd y5;clear h5 t5 f5 y5 Y4 HRD hone hq1 hq2;go_wp2
     go_roundw
     case rel =>refine⟨j+1,A5,c5,Nat.succ_le_of_lt HT.out.2,by go_num,Kd ?_⟩;rw[HT.out.1,List.flatMap_append];exact Y5.out
     case measure=>have:=HT.out.2;simp[intOf];omega
    ·obtain rfl:j=n:=Nat.le_antisymm hj (Nat.le_of_not_lt hlt)
     have hge:decide ((j:Int)<(j:Int))=false :=(by simp);obtain⟨a0,a1,a2,a3⟩:=bk4f hst.out.blk;obtain⟨b0,b1,b2,b3⟩:=bk4f (hst.out.pk [7]).blk;obtain⟨eA',eC',ee,he1,he2⟩:=hst.out.tail.qu_form;obtain⟨rfl,-,rfl⟩:=Value.slice.inj ee;have hLj:L.take j=L:=List.take_of_length_le (Nat.le_of_eq HE.out.2.2.2.2.2.2.2.2.2.2.2.2.2.1);have ye:=St.quRead (hst.out.pk [1,7,2,4,5]) (by rw[enC_flat,List.length_map,hLj,HE.out.2.2.2.2.2.2.2.2.2.2.2.2.2.1]);rw[hLj] at ye;have yz:=(((ye.swap.set_ 0 (.slice rqA k rqC')).set_ 1 (.slice eA j eC)).set_ 2 (.slice jA m jC)).set_ 3 (.slice kA l kC);simp only[List.setIfInBounds_toArray,List.set_cons_zero,List.set_cons_succ] at yz;have YZ:=Kd yz;have HZ:=Kd2 he1 he2;clear ye yz hst ee he1 he2 hLj;go_wp2;refine bodyPost_ret (Jv rfl _ _ _ _ _ _ _ rfl YZ.out.blk underlying51 rfl size_lock) rfl ?_;show MakeP X roots w _ _;obtain⟨hd,hDX,hp,hsrt,h1,h2,h3,h4,h5,h6,h7,h8,h9,hn,hm,hl⟩:=HE.out;obtain⟨he1,he2⟩:=HZ.out;exact⟨d,t,k0,S,HK.out.2.2.2,rqA,rqC',eA,eC,jA,jC,kA,kC,xs,L,D,by rw[hn,hm,hl,HRL.out];rfl,hd,hDX,hp,hsrt,by omega,he2,by omega,h4,h7,by omega,h9,h6,h5,by rw[HRL.out];exact YZ.out.pk [2,1,3,4]⟩
theorem cloneI_spec (A:Option Addr) (n c:Nat) (xs:List Value) (F:Nat→Prop) (w:World) (hr:Z9 w F A xs) (hone:∀ u∈xs,u.oneCell'=true) (hfl:xs.length=n*1) (hL:n≤1048576):
 Calls prog 35 #[.slice A n c] w fun e w'=>∃ A' c',e=.returned (.slice A' n c')∧St w.heap.size w w' [Qh 3 1 (.slice A' n c') n xs]:=by
 have kn:=fun w=>Lib.run_eql_slice_nil (P:=prog) w 54 3 A n c 0 0 underlying54
 cases A with
 | none=>
   obtain rfl:xs=[]:=by
    rcases hr with hr|⟨b,off,e,-⟩
    ·exact hr
    ·cases e
   obtain rfl:n=0:=by rw[List.length_nil] at hfl;omega
   clear hr hone hL hfl;go_enter func35,ntmps35;go_wp2;go_ret;exact⟨none,0,rfl,(St.nil w).new_own (Below.refl _ w) ⟨rfl,.inl ⟨rfl,rfl⟩⟩⟩
 | some a=>
   have y0:St w.heap.size w (w.alloc (.cells #[] 3)) [Qh 3 1 (.slice (some ⟨w.heap.size,0,none⟩) 0 0) 0 []]:=(St.nil w).new_own (b1 w _) (World.ownsRow_lit w #[] 0 (Nat.le_refl _) (by decide) rfl)
   have hnews:∀ j u,xs[j]?=some u→(w.alloc (.cells #[] 3)).cell? (a.add j)=some u:=fun j u hu=>by
    rcases hr with hr|⟨b,off,e,-,hb,hc⟩
    ·rw[hr] at hu
     cases hu
    ·obtain rfl:=Option.some.inj e
     obtain⟨hj,rfl⟩:=List.getElem?_eq_some_iff.1 hu;rw[Addr.add_lit,(b1 w _).cell hb];exact hc j hj
   have Y0:=Kd y0;have HN:=Kd hnews;have HO:=Kd hone;have q1:0+n≤maxLen :=(by unfold maxLen;omega);have q2:(0+n)*8≤140737488355328 :=(by omega);clear hr y0 hnews hone;go_enter func35,ntmps35;go_wp2_with (at_builtin;go_must (refine W9 54 Y0.out underlying54 Wg rfl (by decide) rfl _ _ rfl rfl a n c xs rfl hfl HN.out HO.out q1 q2 ?_);intro v1 w1 h1);have h1:St w.heap.size w w1 [Qh 3 1 v1 n xs] :=(by simpa using h1);obtain⟨A1,c1,rfl,-,-⟩:=Q4 h1.own;have H1:=Kd h1;clear h1;go_wp2;go_ret;exact⟨A1,c1,rfl,H1.out⟩
theorem Ts (x i:Int) (g:Nat) (w:World) (hg:w.cell? ⟨g,0,none⟩=some (.int .i64 i)):Calls prog 36 #[.int .i64 x,.pointer (some ⟨g,0,none⟩)] w fun e w'=>e=.returned (.bool (decide (x=i)))∧∃ q,w'=w.drewN q:=by go_enter func36,ntmps36;go_wp2;go_ret;exact⟨rfl,0,rfl⟩
theorem delI_spec {lo:Nat} {w0 w:World} {Rs:List Q3} {A:Option Addr} {n c g:Nat} {i:Int} {l:List Int} (h:St lo w0 w (Qh 3 1 (.slice A n c) n (l.map (Value.int .i64))::Qa g 3 #[.int .i64 i]::Rs)) (hl:l.length=n) (h0:0<n):
 Calls prog 34 #[.slice A n c,.func (.func 36) #[] #[.pointer (some ⟨g,0,none⟩)]] w fun e w'=>e=.returned (.slice A (l.filter fun x=>!decide (x=i)).length c)∧St lo w0 w' (Qh 3 1 (.slice A (l.filter fun x=>!decide (x=i)).length c) (l.filter fun x=>!decide (x=i)).length ((l.filter fun x=>!decide (x=i)).map (Value.int .i64))::Qa g 3 #[.int .i64 i]::Rs):=by
 obtain⟨b,c',e0,hb,h1,h2⟩:=Zx h.own h0;obtain⟨rfl,-,rfl⟩:=Value.slice.inj e0;obtain⟨F,G,hF,hG,-,-,hFG,-⟩:=h.open2;obtain⟨hblk,rfl⟩:=hG;have hne:g≠b:=fun e=>hFG b (hF.2.1 b rfl) e.symm;have hgc:w.cell? ⟨g,0,none⟩=some (.int .i64 i):=hblk.cell 0
 have hH:Sort.Holds (Value.int .i64) w b 0 l.toArray:=by
  have:=Vh (F:=(l.map (Value.int .i64)).toArray) (by simpa using h.own);intro j hj;obtain⟨q1,q2⟩:=this j (by simpa using hj);refine⟨?_,q2⟩;rw[q1];have hjl:j<l.length:=by simpa using hj
  simp[hjl]
 have k:=AnyE.slices_DeleteFunc Tryz.delI (Value.int .i64) (fun _=>rfl) (fun x=>decide (x=i)) 36 #[.pointer (some ⟨g,0,none⟩)] (enters_of func36 (by kernel_rfl) rfl) 0 Tryz.zeroValue3 b 0 c l.toArray w
  (fun W x hB=>Ts x i g W ((hB.cell (p:=⟨g,0,none⟩) hblk.lt).trans hgc))
  (fun m os dk x _=>Ts x i g _ (by
    unfold sortWorld;rw[cell?_grow _ _ _ (by show g<(Sort.putRow _ _ _ _ _).heap.size;rw[size_putRow];exact hblk.lt),cell?_putRow_other _ _ b 0 _ _ (Or.inl hne)]
    exact hgc)) hH (by have:=h2;unfold maxLen at this;simp only[List.size_toArray];omega) (by simp only[List.size_toArray];omega)
 rw[show l.toArray.size=n by simp[hl]] at k
 change Calls prog 34 _ _ _ at k
 refine k.mono ?_;rintro e w' ⟨rfl,m,rfl⟩;refine⟨by simp,?_⟩;obtain⟨r,hr⟩:∃ r,(l.filter fun x=>!decide (x=i))=r:=⟨_,rfl⟩;have hrl:r.length≤n:=by rw[←hr,←hl];exact List.length_filter_le ..
 obtain⟨r2,hr2⟩:∃ r2:List Int,r++List.replicate (n-r.length) 0=r2:=⟨_,rfl⟩;have hr2l:r2.length=n:=by rw[←hr2,List.length_append,List.length_replicate];omega
 simp only[] at *;rw[hr];rw[hr2];have ho:=Rl (q:=m) (r2.map (Value.int .i64)).toArray h.own (by simp[hr2l])
 have hgr:w.grownBy (Sort.putRow id (Sort.ahead w m) b 0 (r2.map (Value.int .i64)).toArray) (some b):=⟨rfl,rfl,rfl,by simp[Sort.ahead],fun i _ hi=>by
  have hne:b≠i:=fun e=>hi (by rw[e])
  simp[Sort.putRow,Sort.mapBlock,Sort.ahead,Array.getElem?_modify,hne]⟩
 have h3:=(h.shift ho hgr (.inl rfl)).shrink r.length hrl
 have e:Sort.putRow (Value.int .i64) (Sort.ahead w m) b 0 r2.toArray=Sort.putRow id (Sort.ahead w m) b 0 (r2.map (Value.int .i64)).toArray:=by
  unfold Sort.putRow
  congr 1
  unfold Sort.putCells
  funext c
  apply Array.ext_getElem?;intro i;simp only[Array.getElem?_mapIdx]
  congr 1
  funext x
  simp only[List.size_toArray,List.length_map,id]
  split
  ·rename_i hi
   have hi':i-0<r2.length :=(by omega);have hi2:i<r2.length :=(by omega);simp[hi2]
  ·rfl
 rw[e];have e2:(r2.map (Value.int .i64)).take r.length=r.map (Value.int .i64):=by rw[←hr2,List.map_append,List.take_append_of_le_length (by rw[List.length_map];exact Nat.le_refl _),List.take_of_length_le (by rw[List.length_map];exact Nat.le_refl _)]
 rw[←e2];exact h3
def Sl (roots:List Tm.Qw) (k:Nat):Tm.Qw:=roots.getD k ⟨[],[]⟩
def Fd (roots:List Tm.Qw) (K:List Nat) (m:Nat):List Nat:=K.filter fun k=>!decide (k=roots.length-1-m)
def J6 (x:List Tm.Qp) (roots:List Tm.Qw):Nat→List Nat
 |0=>List.range roots.length
 |m+1=>if (Tm.Za x ((Fd roots (J6 x roots m) m).map (Sl roots)) 17 Tm.Zl []).1.isSome=true then J6 x roots m else Fd roots (J6 x roots m) m
theorem Tr (x:List Tm.Qp) (roots:List Tm.Qw):∀ m,∀ k∈J6 x roots m,k<roots.length
 |0,k,h=>List.mem_range.1 h
 | m+1,k,h=>by
   rw[J6] at h
   split at h
   ·exact Tr x roots m k h
   ·exact Tr x roots m k ((List.mem_filter.1 h).1)
theorem E4 (x:List Tm.Qp) (roots:List Tm.Qw):∀ m,(J6 x roots m).length≤roots.length
 |0=>by rw[J6,List.length_range];exact Nat.le_refl _
 | m+1=>by
   rw[J6]
   split
   ·exact E4 x roots m
   ·exact Nat.le_trans (List.length_filter_le ..) (E4 x roots m)
theorem St.madeN {lo:Nat} {w0 w:World} {Rs:List Q3} (h:St lo w0 w Rs) (n:Nat) (hn:n≤1048576):∃ w',(Instr.makeSlice 54 (.int .i64 (n:Int)) (.int .i64 (n:Int))).run prog w=.ok (.slice (some ⟨w.heap.size,0,none⟩) n n) w'∧St lo w0 w' (Qh 3 1 (.slice (some ⟨w.heap.size,0,none⟩) n n) n (List.replicate n (.int .i64 0))::Rs):=
 ⟨_,run_make_row' (P:=prog) 54 3 (.int .i64 0) 8 underlying54 Wg rfl .i64 .i64 n (by omega) (by omega) w,h.new_own (b1 w _) (by
   rw[←toList_madeCells_one]
   exact World.ownsRow_lit w _ n (Nat.le_refl _) (by unfold maxLen;omega) (by rw[size_madeCells,Nat.mul_one]))⟩
theorem St.storeO {lo:Nat} {w0 w:World} {Rs:List Q3} {e:TypeId} {size n c g:Nat} {xs:List Value} (h:St lo w0 w (Qh e size (.slice (some ⟨g,0,none⟩) n c) n xs::Rs)) (p:Nat) (u:Value):St lo w0 (w.setCell ⟨g,p,none⟩ u) (Qh e size (.slice (some ⟨g,0,none⟩) n c) n (xs.set p u)::Rs):=by obtain⟨F,g1,g2,g3⟩:=h.open;have hgF:F g:=g1.2.1 g rfl;exact g3 (F':=F) _ ((Jp w g p u).mono (fun i _ e=>by subst e;exact hgF)) ⟨(g1.1.stored p u).1,g1.2.1,fun k hk=>by simpa [World.setCell] using g1.2.2 k hk⟩ (fun k hk=>.inl hk)
def upR (n j:Nat):List Value:=Q8 (List.range j)++List.replicate (n-j) (.int .i64 0)
theorem upR_set (n j:Nat) (h:j<n):(upR n j).set j (.int .i64 (j:Int))=upR n (j+1):=by
 unfold upR;have e:(Q8 (List.range j)).length=j:=by rw[Jn,List.length_range]
 rw[List.set_append_right _ _ (by rw[e];exact Nat.le_refl _),e,Nat.sub_self,show n-j=(n-(j+1))+1 by omega,List.replicate_succ,List.set_cons_zero,List.range_succ,Wt,List.append_assoc];rfl
theorem upR_all (n:Nat):upR n n=Q8 (List.range n):=by unfold upR;rw[Nat.sub_self];exact List.append_nil _
def Im (w:World) (p:Value):Int:=match p with
 |.pointer (some a)=>intOf ((w.cell? a).getD undef)
 |_=>0
theorem filt_map (K:List Nat) (i:Nat) (iI:Int) (h:iI=(i:Int)):((K.map fun k:Nat=>(k:Int)).filter fun x=>!decide (x=iI))=(K.filter fun k=>!decide (k=i)).map fun k:Nat=>(k:Int):=by
 rw[List.filter_map]
 congr 1
 congr 1
 funext k
 show (!decide ((k:Int)=iI))=_
 congr 2
 apply propext;omega
def rqV (M:List We) (k:Nat):We:=M.getD k (⟨[],[]⟩,.slice none 0 0)
theorem rqV_fst {M:List We} {roots:List Tm.Qw} (h:M.map Prod.fst=roots) (k:Nat):(rqV M k).1=Sl roots k:=by
 subst h;unfold rqV Sl;rw[List.getD_eq_getElem?_getD,List.getD_eq_getElem?_getD,List.getElem?_map]
 cases M[k]?<;>rfl
def CoreP (X:List Qi) (roots:List Tm.Qw) (w:World) (e:Ending) (w':World):Prop:=
 ∃(kA:Option Addr) (kC:Nat),e=.returned (.tuple #[.slice kA (J6 (X.map Qf) roots roots.length).length kC,.int .i64 0])∧St w.heap.size w w' [Qh 3 1 (.slice kA (J6 (X.map Qf) roots roots.length).length kC) (J6 (X.map Qf) roots roots.length).length (Q8 (J6 (X.map Qf) roots roots.length))]
theorem core_spec (X:List Qi) (roots:List Tm.Qw) (v rv:Value) (iA:Option Addr) (iN iC:Nat) (F:Nat→Prop) (w:World) (h:Qx w F v X) (h2:Qt w F rv roots) (hs:Wp X) (hs2:∀ q∈roots,Zu q) (h16:X.length≤16) (hv:Wr X roots=true) (hg:Ji w) (last:Nat) (S:Tm.Qv) (hres:Tm.Za (X.map Qf) roots 17 Tm.Zl []=(none,last,S))
 (hval:∀ m,m<roots.length→Wr X ((Fd roots (J6 (X.map Qf) roots m) m).map (Sl roots))=true) (hne:∀ m,m≤roots.length→J6 (X.map Qf) roots m≠[]):
 Calls prog 14 #[.agg #[v,.slice iA iN iC],rv] w (CoreP X roots w):=by
 have k1:=fun W (hW:Below w.heap.size w W)=>Ya X roots v rv iA iN iC F F W (h.below hW) (h2.below hW) hs hs2 h16 hv (hg.below hW);unfold K8 at k1;rw[hres] at k1;have k2:=fun W (hW:Below w.heap.size w W) (rs:List Tm.Qw) (u:Value) (G:Nat→Prop) (hu:Qt W G u rs) (hrs:∀ q∈rs,q∈roots) (hv:Wr X rs=true)=>Ya X rs v u iA iN iC F G W (h.below hW) hu hs (fun q hq=>hs2 q (hrs q hq)) h16 hv (hg.below hW);obtain⟨A,c,rfl,-,-,-,-⟩:=id h;obtain⟨rA,rC,Mr,eMr,rfl,-,-,hrd,hrm⟩:=h2.ltR;obtain⟨N,hN⟩:∃ N,X.length=N:=⟨_,rfl⟩;obtain⟨rN,hrN⟩:∃ n,Mr.length=n:=⟨_,rfl⟩;have hrl:rN≤16:=by have:=Gb (Xp hv).2;rw[←eMr,List.length_map,hrN] at this;exact this
 have hroots:roots.length=rN:=by rw[←eMr,List.length_map,hrN]
 have y0:=(St.nil w).alloc 25 #[.slice A X.length c,.slice iA iN iC];rw[hN] at k1 k2 y0 ⊢;rw[hrN] at k1 ⊢;obtain⟨W0,hW0⟩:∃ W,w.alloc (.cells #[.slice A N c,.slice iA iN iC] 25)=W:=⟨_,rfl⟩;rw[hW0] at y0;have k1:=k1 W0 y0.below;have x0:=y0.blk.cell 0;have x1:=y0.blk.cell 1;have HM:=Kd5 eMr hrN hrd hrm hroots;have HK:=Kd3 k2 hval hne;have Y0:=Kd y0;clear h h2 hs hs2 h16 hv hg hres k2 hval hne eMr hrd hrm hN hrN y0 hroots;go_enter func14,ntmps14;go_wp2_with fail;refine k1.mono ?_;rintro e w1 ⟨jA,jC,rfl,-,-,-,-,-,y1⟩;have Y1:=Kd (((Y0.out.under y1.below).alloc 75 #[.bool false,.slice none 0 0,.slice jA (last+1) jC,.slice none 0 0]).tail);obtain⟨W3,hmk,y3⟩:=Y1.out.madeN rN (by omega);obtain⟨gk,hgk⟩:∃ q,(w1.alloc (.cells #[.bool false,.slice none 0 0,.slice jA (last+1) jC,.slice none 0 0] 75)).heap.size=q:=⟨_,rfl⟩;rw[hgk] at hmk y3;have Y3:=Kd y3;clear k1 y1 Y0 hW0 x0 x1 hgk y3 Y1;have hnn:rN≤9223372036854775807:=by omega
 go_wp2;clear hmk
 go_loopw [33] (fun i wr=>∃ j:Nat,j≤rN∧i=.int .i64 j∧Hid (St w.heap.size w wr [Qh 3 1 (.slice (some ⟨gk,0,none⟩) rN rN) rN (upR rN j),Qa w.heap.size 25 #[.slice A N c,.slice iA iN iC]])) (fun i _=>rN-(intOf i).toNat)
 case atStart=>exact⟨0,Nat.zero_le _,rfl,Y3⟩
 case round=>
  obtain⟨j,hj,rfl,hst⟩:=hrel
  by_cases hlt:j<rN
  ·have hul:(upR rN j).length=rN:=by
    unfold upR;rw[List.length_append,Jn,List.length_range,List.length_replicate];omega
   obtain⟨old,Zo⟩:∃ u,(upR rN j)[j]?=some u:=⟨_,List.getElem?_eq_getElem (by omega:j<(upR rN j).length)⟩;obtain⟨c0,f0⟩:=hst.out.cellAt Zo;have y1:=hst.out.storeO j (.int .i64 (j:Int));rw[upR_set rN j hlt] at y1;have Y1:=Kd y1;have KL:=Kd hlt;have i0:(0:Int)≤(j:Int):=Int.natCast_nonneg _;have i1:(j:Int)<(rN:Int):=Int.ofNat_lt.2 hlt;clear hul Zo y1 hst;go_wp2
   go_roundw
   case rel=>exact⟨j+1,Nat.succ_le_of_lt KL.out,by go_num,Y1⟩
   case measure=>have:=KL.out;simp[intOf];omega
  ·obtain rfl:j=rN:=Nat.le_antisymm hj (Nat.le_of_not_lt hlt)
   have hge:decide ((j:Int)<(j:Int))=false :=(by simp);have y1:=(hst.out.alloc 3 #[.int .i64 ((j:Int)-1)]);rw[upR_all] at y1;have hw1:wrap64 ((j:Int)-1)=(j:Int)-1:=IntWalk.wrap64_in _ (by omega);have hw2:IntKind.i64.wrap ((j:Int)-1)=(j:Int)-1 :=(by rw[IntKind.wrap_i64];omega);have hk0:J6 (X.map Qf) roots 0=List.range j :=(by rw[J6,HM.out.2.2.2.2]);have Y2:=Kd (y1.pk [1,0,2]);have HK0:=Kd hk0;clear hst y1 hk0;go_wp2;clear hw1 hw2
   go_loopw [10,8] (fun pv kv wr=>∃(m gi:Nat) (iI:Int) (kA:Option Addr) (kN kC:Nat),m≤j∧pv=.pointer (some ⟨gi,0,none⟩)∧kv=.slice kA kN kC ∧ -1≤iI∧iI≤16∧Hid (iI=(j:Int)-1-(m:Int)∧kN=(J6 (X.map Qf) roots m).length)∧Hid (St w.heap.size w wr [Qh 3 1 (.slice kA kN kC) kN (Q8 (J6 (X.map Qf) roots m)),Qa gi 3 #[.int .i64 iI],Qa w.heap.size 25 #[.slice A N c,.slice iA iN iC]])) (fun pv _ wr=>(Im wr pv+1).toNat)
   case atStart=>exact⟨0,_,(j:Int)-1,some ⟨gk,0,none⟩,j,j,Nat.zero_le _,rfl,rfl,by omega,by omega,Kd ⟨by omega,by rw[HK0.out,List.length_range]⟩,Kd (by rw[HK0.out];exact Y2.out)⟩
   case round=>
    obtain⟨m,gi,iI,kA,kN,kC,hm,rfl,rfl,hi1,hi2,hIN,hst⟩:=hrel;have e0:=(hst.out.pk [1]).blk.cell 0;have E0:=Kd e0
    by_cases hlt:m<j
    ·have hi0:0≤iI:=by have:=hIN.out.1;omega
     obtain⟨hie,hkn⟩:=hIN.out;have st:=hst.out;have hKlt:=Tr (X.map Qf) roots m;have hKlen:=E4 (X.map Qf) roots m;have hKne:=HK.out.2.2 m (by rw[HM.out.2.2.2.2];exact hm);have hval:=HK.out.2.1 m (by rw[HM.out.2.2.2.2];exact hlt);have hstep:J6 (X.map Qf) roots (m+1)=if (Tm.Za (X.map Qf) ((Fd roots (J6 (X.map Qf) roots m) m).map (Sl roots)) 17 Tm.Zl []).1.isSome=true then J6 (X.map Qf) roots m else Fd roots (J6 (X.map Qf) roots m) m:=rfl;generalize J6 (X.map Qf) roots m=K at st hkn hKlt hKlen hKne hval hstep;rw[HM.out.2.2.2.2] at hKlt hKlen;have hpos:0<kN :=(by rw[hkn];exact List.length_pos_iff.2 hKne);have kcl:=cloneI_spec kA kN kC (Q8 K) _ wr ((st.pk [0]).rowRd (by rw[Jn,Nat.mul_one,hkn])) (S6 K) (by rw[Jn,Nat.mul_one,hkn]) (by omega);have hfl:=filt_map K (j-1-m) iI (by omega);have hless:Fd roots K m=K.filter fun k=>!decide (k=j-1-m) :=(by unfold Fd;rw[HM.out.2.2.2.2]);rw[←hless] at hfl;obtain⟨Lk,hLk⟩:∃ L,Fd roots K m=L:=⟨_,rfl⟩;rw[hLk] at hfl hval hstep;have hLkK:∀ k∈Lk,k<j:=fun k hk=>hKlt k (by rw[←hLk] at hk;exact(List.mem_filter.1 hk).1);have hLl:Lk.length≤16 :=(by rw[←hLk];exact Nat.le_trans (List.length_filter_le ..) (by omega));obtain⟨nl,hnl⟩:∃ n,Lk.length=n:=⟨_,rfl⟩;rw[hnl] at hLl;have ST:=Kd st;have HL:=Kd8 hie hkn hfl hval hstep hLkK hnl hlt;have hdge:decide (0≤iI)=true:=decide_eq_true hi0;clear hie hkn st hKlt hKlen hKne hval hstep hfl hless hLk hLkK hnl hst hIN;go_wp2_with fail;refine kcl.mono ?_;rintro e w2 ⟨A2,c2,rfl,y2⟩;have y3:=(ST.out.graft y2).pk [0,2,1,3];have kd:Calls prog 34 #[.slice A2 kN c2,.func (.func 36) #[] #[.pointer (some ⟨gi,0,none⟩)]] w2 fun e w'=>e=.returned (.slice A2 nl c2)∧St w.heap.size w w' [Qh 3 1 (.slice A2 nl c2) nl (Q8 Lk),Qa gi 3 #[.int .i64 iI],Qh 3 1 (.slice kA kN kC) kN (Q8 K),Qa w.heap.size 25 #[.slice A N c,.slice iA iN iC]] :=(by have:=delI_spec (lo:=w.heap.size) (w0:=w) (w:=w2) (Rs:=[Qh 3 1 (.slice kA kN kC) kN (Q8 K),Qa w.heap.size 25 #[.slice A N c,.slice iA iN iC]]) (A:=A2) (n:=kN) (c:=c2) (g:=gi) (i:=iI) (l:=K.map fun k:Nat=>(k:Int)) (by rw[B8];exact y3) (by rw[List.length_map,HL.out.2.1]) hpos;rw[HL.out.2.2.1,B8,List.length_map,HL.out.2.2.2.2.2.2.1] at this;exact this);clear kcl y2 y3 ST;go_wp2_with fail;refine kd.mono ?_;rintro e w3 ⟨rfl,y5⟩;have Y5:=Kd (y5.quNil 2 43);have hnn2:nl≤9223372036854775807 :=(by omega);clear kd y5 e0;go_wp2
     go_loopw [54,12] (fun i rv wq=>∃(q:Nat) (qA:Option Addr) (qC:Nat),q≤nl∧i=.int .i64 q∧rv=.slice qA q qC∧Hid (St w.heap.size w wq [Ja 2 (.slice qA q qC) q (((Lk.take q).map (rqV Mr)).flatMap Mp),Qh 3 1 (.slice A2 nl c2) nl (Q8 Lk),Qa gi 3 #[.int .i64 iI],Qh 3 1 (.slice kA kN kC) kN (Q8 K),Qa w.heap.size 25 #[.slice A N c,.slice iA iN iC]])) (fun i _ _=>nl-(intOf i).toNat)
     case atStart=>exact⟨0,none,0,Nat.zero_le _,rfl,rfl,Y5⟩
     case round=>
      obtain⟨q,qA,qC,hq,rfl,rfl,hst⟩:=hrel
      by_cases hqt:q<nl
      ·have hnl:=HL.out.2.2.2.2.2.2.1
       obtain⟨g2,c2',eA2,-,-,-⟩:=Zx (hst.out.pk [1]).own (by omega);obtain⟨rfl,-,rfl⟩:=Value.slice.inj eA2;have hqL:q<Lk.length :=(by omega);obtain⟨k,hkq⟩:∃ k,Lk[q]=k:=⟨_,rfl⟩;have hkj:k<j:=HL.out.2.2.2.2.2.1 k (by rw[←hkq];exact List.getElem_mem _);obtain⟨x0,f0⟩:=(hst.out.pk [1]).cellAt (j:=q) (u:=.int .i64 (k:Int)) (by rw[Q8,List.getElem?_map,List.getElem?_eq_getElem hqL,hkq];rfl);obtain⟨bR,off,rfl,-,x1,x2⟩:=Jk (HM.out.2.2.1.keep (Qm.of_below hst.out.below)) (j:=k) (by rw[HM.out.2.1];exact hkj);have hrv:rqV Mr k=Mr[k]'(by rw[HM.out.2.1];exact hkj) :=(by unfold rqV;rw[List.getD_eq_getElem?_getD,List.getElem?_eq_getElem (by rw[HM.out.2.1];exact hkj)];rfl);rw[←hrv] at x1 x2;have hnext:((Lk.take (q+1)).map (rqV Mr)).flatMap Mp=((Lk.take q).map (rqV Mr)).flatMap Mp++Mp (rqV Mr k) :=(by rw[List.take_add_one,List.getElem?_eq_getElem hqL,hkq,List.map_append,List.flatMap_append];rfl);obtain⟨⟨⟨kp,ks⟩,kv⟩,hkv⟩:∃ x,rqV Mr k=x:=⟨_,rfl⟩;rw[hkv] at x1 x2 hnext;have y4:=hst.out.alloc 43 #[.string ⟨kp.toArray⟩,kv];have HRD:=Kd y4.blkRd;have Y4:=Kd (y4.pk [1,2,3,4,5]);have hq1:q+1≤maxLen :=(by unfold maxLen;omega);have hq2:(q+1)*40≤140737488355328:=by omega
       have hone:∀ u∈([.string ⟨kp.toArray⟩,kv]:List Value),u.oneCell'=true:=fun u hu=>by
        simp at hu;rcases hu with hu|hu
        ·rw[hu];rfl
        ·rw[hu]
         obtain⟨A0,c0,e,-⟩:=HM.out.2.2.2.1 (rqV Mr k) (by rw[hrv];exact List.getElem_mem _);rw[hkv] at e;rw[show kv=_ from e];rfl
       have HQ:=Kd2 hqt hnext;have d1:decide ((q:Int)<(nl:Int))=true:=decide_eq_true (Int.ofNat_lt.2 hqt);have d2:decide ((k:Int)<(j:Int))=true:=decide_eq_true (Int.ofNat_lt.2 hkj);have k0:(0:Int)≤(k:Int):=Int.natCast_nonneg _;have k1:(k:Int)<(j:Int):=Int.ofNat_lt.2 hkj;have q0:(0:Int)≤(q:Int):=Int.natCast_nonneg _;have q1:(q:Int)<(nl:Int):=Int.ofNat_lt.2 hqt;clear hnl hqL hkq hrv hkv hnext y4 hst eA2;go_wp2_with (at_builtin;go_must (refine Jw 26 Y4.out underlying26 Vy rfl HRD.out rfl (by decide) hone hq1 hq2 rfl _ _ rfl rfl rfl ?_);intro A5 c5 w5 h5);rw[show ([.string ⟨kp.toArray⟩,kv]:List Value)=Mp (⟨kp,ks⟩,kv) from rfl,←HQ.out.2] at h5;have Y5:=Kd h5;clear h5 Y4 HRD hone hq1 hq2;go_wp2
       go_roundw
       case rel=>exact⟨q+1,A5,c5,Nat.succ_le_of_lt HQ.out.1,by go_num,rfl,Y5⟩
       case measure=>have:=HQ.out.1;simp[intOf];omega
      ·obtain rfl:q=nl:=Nat.le_antisymm hq (Nat.le_of_not_lt hqt)
       have hnl:=HL.out.2.2.2.2.2.2.1;have y6:=hst.out;rw[List.take_of_length_le (by omega)] at y6;have y6p:=(y6.pk [0]);obtain⟨A',c',e7,h7,h8⟩:=y6p.qu_form;obtain⟨rfl,-,rfl⟩:=Value.slice.inj e7;have hbw:=y6.below;have hML:(Lk.map (rqV Mr)).length=q:=by rw[List.length_map,hnl]
       have hu:Qt wr (fun k=>w.heap.size≤k∨F k∧k<w.heap.size) (.slice qA q qC) (Lk.map (Sl roots)):=by
        refine⟨qA,qC,Lk.map (rqV Mr),?_,by rw[hML],by rw[hML];exact h7,h8,?_,?_⟩
        ·rw[List.map_map]
         exact List.map_congr_left fun k _=>rqV_fst HM.out.1 k
        ·have:=y6p
         rw[←hML] at this;exact(this.quRd (Br _)).mono fun k hk=>.inl hk
        ·intro m hm
         obtain⟨k,hk,rfl⟩:=List.mem_map.1 hm;have hkj:=HL.out.2.2.2.2.2.1 k hk;have hrv:rqV Mr k=Mr[k]'(by rw[HM.out.2.1];exact hkj) :=(by unfold rqV;rw[List.getD_eq_getElem?_getD,List.getElem?_eq_getElem (by rw[HM.out.2.1];exact hkj)];rfl);exact((HM.out.2.2.2.1 (rqV Mr k) (by rw[hrv];exact List.getElem_mem _)).keep (Qm.of_below hbw)).mono fun i hi=>.inr hi
       have kz:=HK.out.1 wr hbw (Lk.map (Sl roots)) (.slice qA q qC) _ hu (fun a ha=>by
        obtain⟨k,hk,rfl⟩:=List.mem_map.1 ha;have hkj:k<roots.length :=(by rw[HM.out.2.2.2.2];exact HL.out.2.2.2.2.2.1 k hk);unfold Sl;rw[List.getD_eq_getElem?_getD,List.getElem?_eq_getElem hkj]
        exact List.getElem_mem _) HL.out.2.2.2.1
       have hstep:=HL.out.2.2.2.2.1;unfold K8 at kz;obtain⟨res,hres⟩:∃ r,Tm.Za (X.map Qf) (Lk.map (Sl roots)) 17 Tm.Zl []=r:=⟨_,rfl⟩;rw[hres] at kz hstep;have Y6:=Kd (y6.tail);have z0:=(y6.pk [4]).blk.cell 0;have z1:=(y6.pk [4]).blk.cell 1;have hge:decide ((q:Int)<(q:Int))=false :=(by simp);have hw1:wrap64 (iI-1)=iI-1:=IntWalk.wrap64_in _ (by omega);have hw2:IntKind.i64.wrap (iI-1)=iI-1 :=(by rw[IntKind.wrap_i64];omega);clear y6 y6p e7 hbw hML hu hres hnl hst;rcases res with⟨_|⟨d,t⟩,last',S'⟩
       ·have HS:=Kd (show J6 (X.map Qf) roots (m+1)=Lk from hstep)
        clear hstep;go_wp2_with fail;refine kz.mono ?_;rintro e w7 ⟨jA',jC',rfl,-,-,-,-,-,y8⟩;have y9:=(Y6.out.under y8.below).alloc 75 #[.bool false,.slice none 0 0,.slice jA' (last'+1) jC',.slice none 0 0];have t0:=(y9.pk [2]).blk.cell 0;have t1:=y9.blk.cell 0;have y10:=y9.alloc 3 #[.int .i64 (iI-1)];rw[World.size_alloc] at y10;have Y12:=Kd (y10.pk [2,0,5]);clear kz z0 z1 y8 y9 y10 Y6;go_wp2;clear hw1 hw2
        go_roundw
        case rel=>exact⟨m+1,_,iI-1,_,_,_,Nat.succ_le_of_lt HL.out.2.2.2.2.2.2.2,rfl,rfl,by omega,by omega,Kd ⟨by have:=HL.out.1;omega,by rw[HS.out];exact HL.out.2.2.2.2.2.2.1.symm⟩,Kd (by rw[HS.out];exact Y12.out)⟩
        case measure=>
         have a2:=(Y12.out.pk [1]).blk.cell 0;unfold Im;dsimp only;rw[a2,E0.out]
         show (iI-1+1).toNat<(iI+1).toNat
         omega
       ·have HS:=Kd (show J6 (X.map Qf) roots (m+1)=K from hstep)
        clear hstep;go_wp2_with fail;refine kz.mono ?_;rintro e w7 ⟨sA,sC,jA',jC',kA',kC',xs,L,D,rfl,-,-,-,-,-,-,-,-,-,-,-,-,-,y8⟩;have y9:=(Y6.out.under y8.below).alloc 75 #[.bool true,.slice sA L.length sC,.slice jA' S'.infs.length jC',.slice kA' t.length kC'];have t0:=(y9.pk [2]).blk.cell 0;have t1:=y9.blk.cell 0;have y10:=y9.alloc 3 #[.int .i64 (iI-1)];rw[World.size_alloc] at y10;have Y12:=Kd (y10.pk [4,0,5]);clear kz z0 z1 y8 y9 y10 Y6;go_wp2;clear hw1 hw2
        go_roundw
        case rel=>exact⟨m+1,_,iI-1,_,_,_,Nat.succ_le_of_lt HL.out.2.2.2.2.2.2.2,rfl,rfl,by omega,by omega,Kd ⟨by have:=HL.out.1;omega,by rw[HS.out];exact HL.out.2.1⟩,Kd (by rw[HS.out];exact Y12.out)⟩
        case measure=>
         have a2:=(Y12.out.pk [1]).blk.cell 0;unfold Im;dsimp only;rw[a2,E0.out]
         show (iI-1+1).toNat<(iI+1).toNat
         omega
    ·have hi:iI = -1:=by have:=hIN.out.1;omega
     subst hi;have hmj:m=j :=(by omega);have HF:=Kd2 hmj hIN.out.2;have Y9:=Kd hst.out;clear hst hIN hmj;go_wp2;go_ret2;obtain⟨hmj,hkn⟩:=HF.out;show CoreP X roots w _ _;unfold CoreP;rw[HM.out.2.2.2.2,←hmj,←hkn];exact⟨kA,kC,rfl,Y9.out.pk [0]⟩
theorem V6 {w:World} {F:Nat→Prop} {A:Option Addr} {L:List EntV} (h:Z9 w F A (L.flatMap enC)) {j:Nat} (hj:j<L.length):∃ b off,A=some ⟨b,off,none⟩∧b<w.heap.size∧w.cell? ⟨b,off+j*6,none⟩=some (.string ⟨L[j].1.1.toArray⟩)∧w.cell? ⟨b,off+j*6+1,none⟩=some (.int .i64 L[j].1.2.1)∧w.cell? ⟨b,off+j*6+2,none⟩=some (.int .i64 L[j].1.2.2.1)∧w.cell? ⟨b,off+j*6+3,none⟩=some (.int .i64 L[j].1.2.2.2)∧w.cell? ⟨b,off+j*6+4,none⟩=some (.string ⟨L[j].2.1.toArray⟩)∧w.cell? ⟨b,off+j*6+5,none⟩=some (.string ⟨L[j].2.2.toArray⟩):=by obtain⟨b,off,e,_,h1,h2⟩:=h.get (fun _=>rfl) hj (k:=6) (by decide);exact⟨b,off,e,h1,h2 0 _ rfl,h2 1 _ rfl,h2 2 _ rfl,h2 3 _ rfl,h2 4 _ rfl,h2 5 _ rfl⟩
theorem Pk (L:List EntV) (rqv jv kv:Value) (eA:Option Addr) (eC:Nat) (F:Nat→Prop) (w:World) (h:Z9 w F eA (L.flatMap enC)) (hl:L.length≤1048576) (q1:rqv.oneCell'=true) (q2:jv.oneCell'=true) (q3:kv.oneCell'=true):
 Calls prog 17 #[.agg #[rqv,.slice eA L.length eC,jv,kv]] w fun e w'=>∃ A c,e=.returned (.slice A L.length c)∧St w.heap.size w w' [Ja 4 (.slice A L.length c) L.length ((L.map Prod.fst).flatMap Wm)]:=by
 obtain⟨N,hN⟩:∃ N,L.length=N:=⟨_,rfl⟩;rw[hN] at hl ⊢;have Y0:=Kd ((((St.nil w).alloc 51 #[rqv,.slice eA N eC,jv,kv]).quNil 4 38));obtain⟨W0,hW0⟩:∃ W,w.alloc (.cells #[rqv,.slice eA N eC,jv,kv] 51)=W:=⟨_,rfl⟩;have y0:=Y0.out;rw[hW0] at y0;have x1:=(y0.pk [1]).blk.cell 1;have Y1:=Kd y0;have HH:=Kd2 h hN;have hnn:N≤9223372036854775807:=by omega
 clear Y0 y0 h hN;go_enter func17,ntmps17;go_wp2;clear x1
 go_loopw [9,3] (fun i sv wr=>∃(j:Nat) (A:Option Addr) (c:Nat),j≤N∧i=.int .i64 j∧sv=.slice A j c∧Hid (St w.heap.size w wr [Ja 4 (.slice A j c) j (((L.take j).map Prod.fst).flatMap Wm),Qa w.heap.size 51 #[rqv,.slice eA N eC,jv,kv]])) (fun i _ _=>N-(intOf i).toNat)
 case atStart=>exact⟨0,none,0,Nat.zero_le _,rfl,rfl,Y1⟩
 case round=>
  obtain⟨j,A,c,hj,rfl,rfl,hst⟩:=hrel
  by_cases hlt:j<N
  ·have hjL:j<L.length:=by rw[HH.out.2];exact hlt
   obtain⟨b,off,rfl,-,s0,s1,s2,s3,s4,s5⟩:=V6 (HH.out.1.keep (Qm.of_below hst.out.below)) hjL;have hnext:((L.take (j+1)).map Prod.fst).flatMap Wm=((L.take j).map Prod.fst).flatMap Wm++Wm L[j].1 :=(by rw[List.take_succ_eq_append_getElem hjL,List.map_append,List.flatMap_append];rfl);generalize L[j]=x at s0 s1 s2 s3 s4 s5 hnext;obtain⟨⟨xp,xa,xb,xc⟩,d1,d2⟩:=x;dsimp only at s0 s1 s2 s3 s4 s5 hnext;have y4:=(hst.out.alloc 84 #[.string ⟨xp.toArray⟩,.int .i64 xa,.int .i64 xb,.int .i64 xc,.string ⟨d1.toArray⟩,.string ⟨d2.toArray⟩]).tail.alloc 38 #[.string ⟨xp.toArray⟩,.int .i64 xa,.int .i64 xb,.int .i64 xc];have hrd:=y4.blkRd;rw[World.size_alloc] at hrd;have HRD:=Kd hrd;have Y4:=Kd (y4.pk [1,2]);have b1:j+1≤maxLen :=(by unfold maxLen;omega);have b2:(j+1)*40≤140737488355328:=by omega
   have hone:∀ u∈([.string ⟨xp.toArray⟩,.int .i64 xa,.int .i64 xb,.int .i64 xc]:List Value),u.oneCell'=true:=fun u hu=>by simp at hu;rcases hu with rfl|rfl|rfl|rfl<;>rfl
   have HQ:=Kd2 hlt hnext;have i0:(0:Int)≤(j:Int):=Int.natCast_nonneg _;have i1:(j:Int)<(N:Int):=Int.ofNat_lt.2 hlt;clear hjL hnext y4 hst hrd;go_wp2_with (at_builtin;go_must (refine Jw 30 Y4.out underlying30 Vx rfl HRD.out rfl (by decide) hone b1 b2 rfl _ _ rfl rfl rfl ?_);intro A5 c5 w5 h5);rw[show ([.string ⟨xp.toArray⟩,.int .i64 xa,.int .i64 xb,.int .i64 xc]:List Value)=Wm (xp,xa,xb,xc) from rfl,←HQ.out.2] at h5;have Y5:=Kd h5;clear h5 Y4 HRD hone b1 b2;go_wp2
   go_roundw
   case rel=>exact⟨j+1,A5,c5,Nat.succ_le_of_lt HQ.out.1,by go_num,rfl,Y5⟩
   case measure=>have:=HQ.out.1;simp[intOf];omega
  ·obtain rfl:j=N:=Nat.le_antisymm hj (Nat.le_of_not_lt hlt)
   have hge:decide ((j:Int)<(j:Int))=false :=(by simp);have y9:=hst.out;rw[List.take_of_length_le (Nat.le_of_eq HH.out.2)] at y9;have Y9:=Kd y9;clear hst y9;go_wp2;go_ret;exact⟨A,c,rfl,Y9.out.pk [0]⟩
theorem lans_spec (L:List EntV) (rqv:Value) (eA:Option Addr) (eC:Nat) (F:Nat→Prop) (A1 A2 A3:Option Addr) (n1 n2 n3 c1 c2 c3:Nat) (w:World) (h:Z9 w F eA (L.flatMap enC)) (hl:L.length≤1048576):
 Calls prog 41 #[.agg #[.slice A1 n1 c1,.slice eA L.length eC,.slice A2 n2 c2,.slice A3 n3 c3]] w fun e w'=>∃ A c,e=.returned (.agg #[.bool true,.slice A L.length c,.slice A2 n2 c2,.slice A3 n3 c3])∧St w.heap.size w w' [Ja 4 (.slice A L.length c) L.length ((L.map Prod.fst).flatMap Wm)]:=by
 obtain⟨N,hN⟩:∃ N,L.length=N:=⟨_,rfl⟩;have y0:=(St.nil w).alloc 51 #[.slice A1 n1 c1,.slice eA N eC,.slice A2 n2 c2,.slice A3 n3 c3];obtain⟨W0,hW0⟩:∃ W,w.alloc (.cells #[.slice A1 n1 c1,.slice eA N eC,.slice A2 n2 c2,.slice A3 n3 c3] 51)=W:=⟨_,rfl⟩;rw[hW0] at y0;have y1:=y0.alloc 75 #[.bool false,.slice none 0 0,.slice none 0 0,.slice none 0 0];obtain⟨W1,hW1⟩:∃ W,W0.alloc (.cells #[.bool false,.slice none 0 0,.slice none 0 0,.slice none 0 0] 75)=W:=⟨_,rfl⟩;obtain⟨ga,hga⟩:∃ g,W0.heap.size=g:=⟨_,rfl⟩;rw[hW1,hga] at y1;have ks:∀ W,Below w.heap.size w W→Calls prog 17 #[.agg #[.slice A1 n1 c1,.slice eA N eC,.slice A2 n2 c2,.slice A3 n3 c3]] W fun e w'=>∃ A c,e=.returned (.slice A N c)∧St W.heap.size W w' [Ja 4 (.slice A N c) N ((L.map Prod.fst).flatMap Wm)]:=fun W hW=>by have:=Pk L (.slice A1 n1 c1) (.slice A2 n2 c2) (.slice A3 n3 c3) eA eC F W (h.keep (Qm.of_below hW)) hl rfl rfl rfl;rw[hN] at this;exact this
 have hS:∀(w':World),St w.heap.size w w' [Qa w.heap.size 51 #[.slice A1 n1 c1,.slice eA N eC,.slice A2 n2 c2,.slice A3 n3 c3]]→w'.cell? ⟨w.heap.size,0,none⟩=some (.slice A1 n1 c1)∧w'.cell? ⟨w.heap.size,1,none⟩=some (.slice eA N eC)∧w'.cell? ⟨w.heap.size,2,none⟩=some (.slice A2 n2 c2)∧w'.cell? ⟨w.heap.size,3,none⟩=some (.slice A3 n3 c3):=fun w' z=>⟨z.blk.cell 0,z.blk.cell 1,z.blk.cell 2,z.blk.cell 3⟩;rw[hN];have HS:=Kd hS;have KS:=Kd ks;have Y1:=Kd y1;clear h hN y0 y1 hS ks;go_enter func41,ntmps41;go_wp2_with fail;refine wp_region_noPanic ?_;refine wp_region_held_drew (S:=(fun W'=>W'.cell? ⟨w.heap.size,0,none⟩=some (.slice A1 n1 c1)∧W'.cell? ⟨w.heap.size,1,none⟩=some (.slice eA N eC)∧W'.cell? ⟨w.heap.size,2,none⟩=some (.slice A2 n2 c2)∧W'.cell? ⟨w.heap.size,3,none⟩=some (.slice A3 n3 c3))) (by kernel_rfl) ?_ (fun hH0=>?_)
 ·exact HS.out _ (Y1.out.drew.pk [1])
 refine tk 0 3 hH0 ?_;refine tk 2 5 hH0 ?_;refine tk 3 6 hH0 ?_;refine tk 4 7 hH0 ?_;refine tk 5 8 hH0 ?_;refine Zk [1] ?_;refine an 4 fun K hK=>?_
 go_simp;(
  with_reducible refine(KS.out _ Y1.out.drew.below).mono ?_
  rintro e w4 ⟨A,c,rfl,z4⟩;have y4:=(Y1.out.drew.graft z4);have y6:=((((y4.pk [1,0,2]).set_ 0 (.bool true)).set_ 1 (.slice A N c)).set_ 2 (.slice A2 n2 c2)).set_ 3 (.slice A3 n3 c3);simp only[List.setIfInBounds_toArray,List.set_cons_zero,List.set_cons_succ] at y6;have y5:=y6.pk [1,0,2]
  obtain⟨⟨f0,f4⟩,⟨f1,f5⟩,⟨f2,f6⟩,f3,f7⟩:=bk4f (y4.pk [1]).blk);go_wp2_with fail
 refine hK.out _ _ ?_ (fun hH1=>?_)
 ·exact HS.out _ (y4.pk [2])
 clear hK K hH0
 try simp only[pu]
 refine tk 6 9 hH1 ?_;refine Zk [7] ?_;refine az fun K hK=>?_;go_simp;refine hK.out _ _ ?_ (fun hH2=>?_)
 ·exact HS.out _ (y5.pk [2])
 clear hK K hH1
 try simp only[pu]
 refine dn ?_ _
 all_goals(refine NoPanic.normal ?_)
 all_goals(
  clear f0 f1 f2 f3 f4 f5 f6 f7 y4 y5 Y1 HS KS;have Y6:=Kd y6;clear y6;generalize ((((w4.setCell ⟨ga,0,none⟩ (.bool true)).setCell ⟨ga,1,none⟩ (.slice A N c)).setCell ⟨ga,2,none⟩ (.slice A2 n2 c2)).setCell ⟨ga,3,none⟩ (.slice A3 n3 c3))=w5 at Y6 ⊢;go_wp2;refine bodyPost_ret (Jc rfl _ _ _ _ _ _ _ rfl Y6.out.blk underlying75 rfl Sj) rfl ?_
  exact⟨A,c,rfl,Y6.out.pk [1]⟩)
theorem ixIn_spec (f:Nat) (lb:Array Value) (he:∀ args w,(callFunc f args).run prog w=.ok (.enter f args) w) (A:Option Addr) (N c:Nat) (v0:Nat→Value) (p:Nat→Bool) (w:World) (hm:N≤maxLen)
 (hc:∀ j,j<N→∃ b off,A=some ⟨b,off,none⟩∧b<w.heap.size∧w.cell? ⟨b,off+j,none⟩=some (v0 j))
 (kf:∀ j W,j<N→Below w.heap.size w W→Calls prog f (#[v0 j]++lb) W fun e w'=>e=.returned (.bool (p j))∧Below W.heap.size W w'):
 Calls prog 64 #[.slice A N c,.func (.func f) #[] lb] w fun e w'=>∃ j:Int,e=.returned (.int .i64 j)∧Below w.heap.size w w'∧IxP p N j:=by
 have hm':N≤9223372036854775807:=Nat.le_trans hm (by decide);have HC:=Kd hc;have KF:=Kd kf;clear hc kf;go_enter func64,ntmps64;go_wp2
 go_loopw [8] (fun i wr=>∃(k:Nat),k≤N∧i=.int .i64 k∧Hid (∀ j,j<k→p j=false)∧Hid (Below w.heap.size w wr)) (fun i _=>N-(intOf i).toNat)
 case atStart=>exact⟨0,Nat.zero_le _,rfl,Kd (fun j hj=>absurd hj (Nat.not_lt_zero _)),Kd (Below.refl _ _)⟩
 case round=>
  obtain⟨k,hk,rfl,hp,hb⟩:=hrel
  by_cases hlt:k<N
  ·obtain⟨b,off,rfl,hbl,c0⟩:=HC.out k hlt
   have kx:=KF.out k wr hlt hb.out;rw[←Ze hb.out (p:=⟨b,off+k,none⟩) hbl] at c0;generalize hq:p k=q at kx;have HQ:=Kd hq;have KL:=Kd hlt;have i0:(0:Int)≤(k:Int):=Int.natCast_nonneg _;have i1:(k:Int)<(N:Int):=Int.ofNat_lt.2 hlt;generalize v0 k=x0 at kx c0;clear hq hbl
   cases q with
   |true =>go_wp2_with fail;refine kx.mono ?_;rintro e w3 ⟨rfl,b3⟩;have B3:=Kd (Q0 hb.out b3);clear b3 kx;go_wp2;go_ret;exact⟨(k:Int),rfl,B3.out,.inr ⟨k,KL.out,rfl,HQ.out,hp.out⟩⟩
   | false=>
     go_wp2_with fail;refine kx.mono ?_;rintro e w3 ⟨rfl,b3⟩;have B3:=Kd (Q0 hb.out b3);clear b3 kx;go_wp2
     go_roundw
     case rel=>exact⟨k+1,Nat.succ_le_of_lt KL.out,by go_num,Kd (fun j hj=>by rcases Nat.lt_succ_iff_lt_or_eq.1 hj with h|rfl;exact hp.out j h;exact HQ.out),B3⟩
     case measure=>have:=KL.out;simp[intOf];omega
  ·obtain rfl:k=N:=Nat.le_antisymm hk (Nat.le_of_not_lt hlt)
   have hge:decide ((k:Int)<(k:Int))=false :=(by simp);go_wp2;go_ret;exact⟨-1,rfl,hb.out,.inl ⟨rfl,hp.out⟩⟩
theorem Of (f:Nat) (lb:Array Value) (he:∀ args w,(callFunc f args).run prog w=.ok (.enter f args) w) (A:Option Addr) (N c:Nat) (v0:Nat→Value) (p:Nat→Bool) (w:World) (hm:N≤maxLen)
 (hc:∀ j,j<N→∃ b off,A=some ⟨b,off,none⟩∧b<w.heap.size∧w.cell? ⟨b,off+j,none⟩=some (v0 j))
 (kf:∀ j W,j<N→Below w.heap.size w W→Calls prog f (#[v0 j]++lb) W fun e w'=>e=.returned (.bool (p j))∧Below W.heap.size W w'):
 Calls prog 115 #[.slice A N c,.func (.func f) #[] lb] w fun e w'=>∃ b:Bool,e=.returned (.bool b)∧Below w.heap.size w w'∧Hh p N b:=by
 have k:=ixIn_spec f lb he A N c v0 p w hm hc kf;clear hc kf;go_enter func115,ntmps115;go_wp2_with fail;refine k.mono ?_;rintro e w' ⟨j,rfl,b1,hj⟩;have HJ:=Kd hj.any;have B1:=Kd b1;clear hj k b1;go_wp2;go_ret;exact⟨_,rfl,B1.out,HJ.out⟩
theorem ixSk_spec (f:Nat) (lb:Array Value) (he:∀ args w,(callFunc f args).run prog w=.ok (.enter f args) w) (A:Option Addr) (N c:Nat) (v0 v1 v2:Nat→Value) (p:Nat→Bool) (w:World) (hm:N≤maxLen)
 (hc:∀ j,j<N→∃ b off,A=some ⟨b,off,none⟩∧b<w.heap.size∧w.cell? ⟨b,off+j*3,none⟩=some (v0 j)∧w.cell? ⟨b,off+j*3+1,none⟩=some (v1 j)∧w.cell? ⟨b,off+j*3+2,none⟩=some (v2 j))
 (kf:∀ j W,j<N→Below w.heap.size w W→Calls prog f (#[.agg #[v0 j,v1 j,v2 j]]++lb) W fun e w'=>e=.returned (.bool (p j))∧Below W.heap.size W w'):
 Calls prog 123 #[.slice A N c,.func (.func f) #[] lb] w fun e w'=>∃ j:Int,e=.returned (.int .i64 j)∧Below w.heap.size w w'∧IxP p N j:=by
 have hm':N≤9223372036854775807:=Nat.le_trans hm (by decide);have HC:=Kd hc;have KF:=Kd kf;clear hc kf;go_enter func123,ntmps123;go_wp2
 go_loopw [8] (fun i wr=>∃(k:Nat),k≤N∧i=.int .i64 k∧Hid (∀ j,j<k→p j=false)∧Hid (Below w.heap.size w wr)) (fun i _=>N-(intOf i).toNat)
 case atStart=>exact⟨0,Nat.zero_le _,rfl,Kd (fun j hj=>absurd hj (Nat.not_lt_zero _)),Kd (Below.refl _ _)⟩
 case round=>
  obtain⟨k,hk,rfl,hp,hb⟩:=hrel
  by_cases hlt:k<N
  ·obtain⟨b,off,rfl,hbl,c0,c1,c2⟩:=HC.out k hlt
   have kx:=KF.out k wr hlt hb.out;rw[←Ze hb.out (p:=⟨b,off+k*3,none⟩) hbl] at c0;rw[←Ze hb.out (p:=⟨b,off+k*3+1,none⟩) hbl] at c1;rw[←Ze hb.out (p:=⟨b,off+k*3+2,none⟩) hbl] at c2;generalize hq:p k=q at kx;have HQ:=Kd hq;have KL:=Kd hlt;have i0:(0:Int)≤(k:Int):=Int.natCast_nonneg _;have i1:(k:Int)<(N:Int):=Int.ofNat_lt.2 hlt;generalize v0 k=x0 at kx c0;generalize v1 k=x1 at kx c1;generalize v2 k=x2 at kx c2;clear hq hbl
   cases q with
   |true =>go_wp2_with fail;refine kx.mono ?_;rintro e w3 ⟨rfl,b3⟩;have B3:=Kd (Q0 hb.out b3);clear b3 kx;go_wp2;go_ret;exact⟨(k:Int),rfl,B3.out,.inr ⟨k,KL.out,rfl,HQ.out,hp.out⟩⟩
   | false=>
     go_wp2_with fail;refine kx.mono ?_;rintro e w3 ⟨rfl,b3⟩;have B3:=Kd (Q0 hb.out b3);clear b3 kx;go_wp2
     go_roundw
     case rel=>exact⟨k+1,Nat.succ_le_of_lt KL.out,by go_num,Kd (fun j hj=>by rcases Nat.lt_succ_iff_lt_or_eq.1 hj with h|rfl;exact hp.out j h;exact HQ.out),B3⟩
     case measure=>have:=KL.out;simp[intOf];omega
  ·obtain rfl:k=N:=Nat.le_antisymm hk (Nat.le_of_not_lt hlt)
   have hge:decide ((k:Int)<(k:Int))=false :=(by simp);go_wp2;go_ret;exact⟨-1,rfl,hb.out,.inl ⟨rfl,hp.out⟩⟩
theorem cfSk_spec (f:Nat) (lb:Array Value) (he:∀ args w,(callFunc f args).run prog w=.ok (.enter f args) w) (A:Option Addr) (N c:Nat) (v0 v1 v2:Nat→Value) (p:Nat→Bool) (w:World) (hm:N≤maxLen)
 (hc:∀ j,j<N→∃ b off,A=some ⟨b,off,none⟩∧b<w.heap.size∧w.cell? ⟨b,off+j*3,none⟩=some (v0 j)∧w.cell? ⟨b,off+j*3+1,none⟩=some (v1 j)∧w.cell? ⟨b,off+j*3+2,none⟩=some (v2 j))
 (kf:∀ j W,j<N→Below w.heap.size w W→Calls prog f (#[.agg #[v0 j,v1 j,v2 j]]++lb) W fun e w'=>e=.returned (.bool (p j))∧Below W.heap.size W w'):
 Calls prog 74 #[.slice A N c,.func (.func f) #[] lb] w fun e w'=>∃ b:Bool,e=.returned (.bool b)∧Below w.heap.size w w'∧Hh p N b:=by
 have k:=ixSk_spec f lb he A N c v0 v1 v2 p w hm hc kf;clear hc kf;go_enter func74,ntmps74;go_wp2_with fail;refine k.mono ?_;rintro e w' ⟨j,rfl,b1,hj⟩;have HJ:=Kd hj.any;have B1:=Kd b1;clear hj k b1;go_wp2;go_ret;exact⟨_,rfl,B1.out,HJ.out⟩
theorem N7 (s:Tm.Qk) (w:World) (hl:s.length=0):Calls prog 72 #[.string ⟨s.toArray⟩] w fun e w'=>e=.returned (.bool true)∧Below w.heap.size w w':=by obtain rfl:=List.length_eq_zero_iff.1 hl;go_enter func72,ntmps72;go_wp2;go_ret;exact⟨rfl,Below.refl _ _⟩
theorem Cp (i:Int) (w:World):Calls prog 122 #[.int .i64 i] w fun e w'=>e=.returned (.bool (decide (i<0)))∧Below w.heap.size w w':=by go_enter func122,ntmps122;go_wp2;go_ret;exact⟨rfl,Below.refl _ _⟩
theorem named_spec (s:Tm.Qk) (A:Option Addr) (N c:Nat) (L:List Nat) (F:Nat→Prop) (w:World) (hs:s.length≤64) (hr:Z9 w F A (Q8 L)) (hN:N=L.length) (hm:N≤maxLen):
 Calls prog 73 #[.string ⟨s.toArray⟩,.slice A N c] w fun e w'=>e=.returned (.bool true)∧Below w.heap.size w w':=by
 subst hN;have hget:∀ j (hj:j<L.length),(Q8 L).getD j undef=.int .i64 (L[j]:Int):=fun j hj=>by rw[List.getD_eq_getElem?_getD,Q8,List.getElem?_map,List.getElem?_eq_getElem hj];rfl
 have k:=Of 122 #[] (enters_of func122 (by kernel_rfl) rfl) A L.length c (fun j=>(Q8 L).getD j undef) (fun _=>false) w hm (fun j hj=>by
  have hj':j<(Q8 L).length:=by rw[Jn];exact hj
  rcases hr with hr|⟨b,off,e,-,h2,h3⟩
  ·rw[hr] at hj';cases hj'
  ·refine⟨b,off,e,h2,?_⟩
   rw[h3 j hj',List.getD_eq_getElem?_getD,List.getElem?_eq_getElem hj']
   rfl) (fun j W hj hW=>by
  rw[hget j hj];refine(Cp (L[j]:Int) W).mono ?_;rintro e w' ⟨rfl,hb⟩
  exact⟨by rw[decide_eq_false (by omega)],hb⟩)
 have hs':((s.length:Nat):Int)≤64:=by omega
 clear hr hget;go_enter func73,ntmps73;go_wp2_with fail;refine k.mono ?_;rintro e w' ⟨b,rfl,hb,hany⟩
 obtain rfl:b=false:=by
  cases b
  ·rfl
  ·obtain⟨i,-,hi⟩:=hany.1 rfl
   cases hi
 have HB:=Kd hb;clear k hany hb;go_wp2;go_ret;exact⟨rfl,HB.out⟩
end Go.Proofs.YtiefajiebebgoaaGreatDoor
