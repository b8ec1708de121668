/-
  newSearch of package solver,in the program. Conditions: sizes in the reach of the form.
-/
import Derived.Test.YtiefajiebebgoaaGreatDoorQHd
import Derived.Test.YtiefajiebebgoaaGreatDoorQPi
set_option maxRecDepth 20000
set_option maxHeartbeats 16000000
open Go.Proofs.Tryz
namespace Go.Proofs.YtiefajiebebgoaaGreatDoor
set_option linter.unusedVariables false
open Go.RowKit Go.Shelf
attribute [local go_sem] Oper.semAt_some
theorem Id (w:World):(zeroValue 118).run prog w=.ok (.slice none 0 0) w:=by kernel_rfl
abbrev Vm:Ul→Q3:=grR 175 10 Gf
def avR (x:List Tm.Qp) (L:List (Tm.Qk×Value)):Q3 where
 P w F:=(∀ e∈L,Qr w F e.2 (Tm.Qy x e.1))∧∀ k,F k→k<w.heap.size
 lt h:=h.2
 mod h hm hG:=⟨fun e he=>(h.1 e he).keep (Qm.of_mod hm hG),fun k hk=>Nat.lt_of_lt_of_le (h.2 k hk) hm.size⟩
theorem St.avNil {lo:Nat} {w0 w:World} {Rs:List Q3} (h:St lo w0 w Rs) (x:List Tm.Qp):St lo w0 w (avR x []::Rs):=
 h.new (F:=fun _=>False) (Below.refl _ w) ⟨fun v hv=>(by cases hv),fun k hk=>hk.elim⟩ (fun k hk=>hk.elim)
theorem St.avAdd {lo:Nat} {w0 w w':World} {Rs:List Q3} {x:List Tm.Qp} {L:List (Tm.Qk×Value)} {p:Tm.Qk} {v:Value} (h:St lo w0 w (avR x L::Rs)) (hb:Below w.heap.size w w') (hs:Qr w' (fun k=>w.heap.size≤k) v (Tm.Qy x p)):St lo w0 w' (avR x ((p,v)::L)::Rs):=by
 have y:St lo w0 w' (avR x [(p,v)]::avR x L::Rs):=h.new (F:=fun k=>w.heap.size≤k∧k<w'.heap.size) hb ⟨fun e he=>(by
  rw[List.mem_singleton.1 he]
  exact hs.lt),fun k hk=>hk.2⟩ (fun k hk=>hk.1)
 refine y.join fun F G hF hG=>⟨fun e he=>?_,fun k hk=>?_⟩
 ·rcases List.mem_cons.1 he with rfl|he
  ·exact(hF.1 _ (List.mem_singleton.2 rfl)).mono fun k hk=>.inl hk
  ·exact(hG.1 e he).mono fun k hk=>.inr hk
 ·rcases hk with hk|hk
  ·exact hF.2 k hk
  ·exact hG.2 k hk
def AvM (M:Lit→Option Value) (L:List (Tm.Qk×Value)):Prop:=∀ s:Tm.Qk,M (.string s)=(L.find? fun e=>decide (e.1=s)).map Prod.snd
theorem AvM.put {M:Lit→Option Value} {L:List (Tm.Qk×Value)} (h:AvM M L) (p:Tm.Qk) (v:Value):AvM (Jq M (.string p) v) ((p,v)::L):=fun s=>by
 rw[List.find?_cons]
 by_cases hs:s=p
 ·subst hs
  rw[Zd,decide_eq_true rfl];rfl
 ·rw[Qz (fun e=>hs (Lit.string.inj e)),decide_eq_false (fun e=>hs e.symm),h s]
def NewP (X:List Qi) (rv:Value) (w:World) (e:Ending) (w':World):Prop:=∃ g b1 b2 b3 n1 n2 M1 MA R L,e=.returned (.pointer (some ⟨g,0,none⟩))∧Xh M1 R∧Ww (fun r=>!r.yank) X X.length R∧AvM MA L∧(∀ p,(M1 (.string p)).isSome=true→p∈L.map Prod.fst)∧
 St w.heap.size w w' ([Qa g 121 #[rv,.map (some b1),.map (some b2),.slice none 0 0,.slice none 0 0,.map (some b3),.bool false,.slice none 0 0,.slice none 0 0,.slice none 0 0],Zw 9 b1 n1 M1,Zw 9 b2 n2 MA,Zw 152 b3 0 (fun _=>none),avR (X.map Qf) L]++R.map Vm)
theorem Sx (X:List Qi) (v:Value) (iA:Option Addr) (iN iC:Nat) (rA:Option Addr) (rN rC:Nat) (F:Nat→Prop) (w:World) (h:Qx w F v X) (hs:Wp X) (hX:X.length≤1048576) (hg:Ji w) (hok:Gc X=0):
 Calls prog 56 #[.agg #[v,.slice iA iN iC],.slice rA rN rC] w (NewP X (.slice rA rN rC) w):=by
 obtain⟨A,c,rfl,hc1,hc2,hr,hq⟩:=id h;have hoX:=Dv hok;have kav:∀(p:Tm.Qk) W,Below w.heap.size w W→p.length≤maxLen→Calls prog 92 #[.agg #[.slice A X.length c,.slice iA iN iC],.string ⟨p.toArray⟩] W fun e w'=>∃ v',e=.returned v'∧Below W.heap.size W w'∧Qr w' (fun k=>W.heap.size≤k) v' (Tm.Qy (X.map Qf) p):=fun p W hW hp =>avail_spec X _ iA iN iC F p W (h.below hW) hs hX (hg.below hW) hok hp;obtain⟨N,hN⟩:∃ N,X.length=N:=⟨_,rfl⟩;rw[hN] at kav hX ⊢;have y0:=(((((St.nil w).alloc 25 #[.slice A N c,.slice iA iN iC]).mpMade 9).mpMade 9).mpMade 152).alloc 121 #[.slice rA rN rC,.map (some (w.heap.size+1)),.map (some (w.heap.size+1+1)),.slice none 0 0,.slice none 0 0,.map (some (w.heap.size+1+1+1)),.bool false,.slice none 0 0,.slice none 0 0,.slice none 0 0];simp only[World.size_alloc] at y0;have hmm:=@run_makeMap prog;have HM:=Kd6 hN (fun j r (hj:X[j]?=some r)=>Vo hr hj) hs hq hoX kav;have x0:=(y0.pk [4]).blk.cell 0;have Y0:=Kd y0;clear hN hr hs hq hoX hok y0 h hc1 hc2 hg kav;go_enter func56,ntmps56;go_wp2
 go_loopw [20] (fun i wr=>∃(k n1:Nat) (M1:Lit→Option Value) (R:List Ul),k≤N∧i=.int .i64 k∧n1≤k∧Hid (Xh M1 R∧Ww (fun r=>!r.yank) X k R)∧Hid (St w.heap.size w wr ([Qa (w.heap.size+1+1+1+1) 121 #[.slice rA rN rC,.map (some (w.heap.size+1)),.map (some (w.heap.size+1+1)),.slice none 0 0,.slice none 0 0,.map (some (w.heap.size+1+1+1)),.bool false,.slice none 0 0,.slice none 0 0,.slice none 0 0],Zw 9 (w.heap.size+1) n1 M1,Zw 9 (w.heap.size+1+1) 0 (fun _=>none),Zw 152 (w.heap.size+1+1+1) 0 (fun _=>none),Qa w.heap.size 25 #[.slice A N c,.slice iA iN iC]]++R.map Vm))) (fun i _=>N-(intOf i).toNat)
 case atStart=>exact⟨0,0,fun _=>none,[],Nat.zero_le _,rfl,Nat.le_refl _,Kd ⟨Xh.nil,Ww.nil _ X⟩,Kd (Y0.out.pk [0,3,2,1,4])⟩
 case round=>
  obtain⟨k,n1,M1,R,hk,rfl,hn1,hR,hst⟩:=hrel
  by_cases hlt:k<N
  ·obtain⟨hN,hcs,hs,hq,hoX,-⟩:=HM.out
   obtain⟨r,hr⟩:∃ r,X[k]?=some r:=⟨_,List.getElem?_eq_getElem (by omega)⟩;have hrX:=List.mem_of_getElem? hr;obtain⟨b,off,rfl,hbl,ra⟩:=hcs k r hr;have ra:=ra.below hst.out.below hbl;obtain⟨A',n',c',hrv⟩:∃ A n c,r.rv=.slice A n c:=by obtain⟨A,c,M,-,e,-⟩:=hq r hrX;exact⟨A,_,c,e⟩
   have hpl:=(hs r hrX).path;have kk:=fun W=>Z6 r.major r.minor r.patch W (hoX r hrX);have hstep:=fun v (hy:r.yank=false)=>hR.out.2.step (q:=fun r=>!r.yank) hr (by rw[hy];rfl) v;have hskip:=fun (hy:r.yank=true)=>hR.out.2.skip (q:=fun r=>!r.yank) hr (by rw[hy];rfl);have hput:=fun v xs=>hR.out.1.put r.path v xs;have hlen:(Hy R r.path).length≤k :=(by rw[hR.out.2 r.path];exact Nat.le_trans (List.length_filter_le ..) (by rw[List.length_take];omega));have s1:=hst.out.alloc 46 (Xi r).toArray;have s2:=St.takeG (Rs:=Qa wr.heap.size 46 (Xi r).toArray::[Qa (w.heap.size+1+1+1+1) 121 #[.slice rA rN rC,.map (some (w.heap.size+1)),.map (some (w.heap.size+1+1)),.slice none 0 0,.slice none 0 0,.map (some (w.heap.size+1+1+1)),.bool false,.slice none 0 0,.slice none 0 0,.slice none 0 0],Zw 9 (w.heap.size+1) n1 M1,Zw 9 (w.heap.size+1+1) 0 (fun _=>none),Zw 152 (w.heap.size+1+1+1) 0 (fun _=>none),Qa w.heap.size 25 #[.slice (some ⟨b,off,none⟩) N c,.slice iA iN iC]]) s1 hR.out.1.1 r.path;have lk:=hR.out.1.look r.path;have hrow:(Hy R r.path++[r]).flatMap Gf=(Hy R r.path).flatMap Gf++Gf r :=(by rw[List.flatMap_append,List.flatMap_cons,List.flatMap_nil,List.append_nil]);obtain⟨xs,hcp⟩:∃ xs,Hy R r.path=xs:=⟨_,rfl⟩;rw[hcp] at s2 hstep hlen hrow;have hml:r.path.length≤maxLen :=(by unfold maxLen;omega);have hyk:r.yank=true∨r.yank=false :=(by cases r.yank<;>simp);have hcac:Gf r=.int .i64 (1000*r.minor+r.patch)::Xi r:=rfl;rw[hcac] at hrow;obtain⟨a0,a1,a2,a3,a4,a5,a6,a7,a8⟩:=ra;have KL:=Kd hlt;clear hcs hs hq hoX hN hcp hrX hr hpl hcac;obtain⟨pa,ma,mi,pt,rq,rv,ar,ifc,ce,ya⟩:=r;dsimp only at hrv hlen lk s2 s1 a0 a1 a2 a3 a4 a5 a6 a7 a8 kk hml hrow hyk hstep hskip hput;subst hrv;generalize hpp:1000*mi+pt=pl at kk hrow;clear hpp;unfold Xi at s2 hrow s1;dsimp only at s2 hrow s1;generalize curW R pa=v0 at s2 lk;have i0:(0:Int)≤(k:Int):=Int.natCast_nonneg _;have i1:(k:Int)<(N:Int):=Int.ofNat_lt.2 hlt;obtain⟨g7,hg7⟩:∃ q,wr.heap.size=q:=⟨_,rfl⟩;rcases hyk with rfl|rfl
   ·obtain⟨W1,hW1⟩:∃ W,wr.alloc (.cells #[.string ⟨pa.toArray⟩,.int .i64 ma,.int .i64 mi,.int .i64 pt,.slice A' n' c',.string ⟨ar.toArray⟩,.string ⟨ifc.toArray⟩,.string ⟨ce.toArray⟩,.bool true] 46)=W:=⟨_,rfl⟩
    rw[hW1,hg7] at s1;obtain⟨r0,r1,r2,r3,r4,r5,r6,r7,r8⟩:=Ip (St.blk s1);have S1:=Kd s1.tail;have HS:=Kd (hskip rfl);clear s1 s2 hskip hstep hput hrow lk;go_wp2
    go_roundw
    case rel=>exact⟨k+1,n1,M1,R,Nat.succ_le_of_lt KL.out,by go_num,by omega,Kd ⟨hR.out.1,HS.out⟩,S1⟩
    case measure=>have:=KL.out;simp[intOf];omega
   ·have HR0:=Kd4 hR.out.1.1 (fun v=>hstep v rfl) hput hrow
    obtain⟨W1,hW1⟩:∃ W,wr.alloc (.cells #[.string ⟨pa.toArray⟩,.int .i64 ma,.int .i64 mi,.int .i64 pt,.slice A' n' c',.string ⟨ar.toArray⟩,.string ⟨ifc.toArray⟩,.string ⟨ce.toArray⟩,.bool false] 46)=W:=⟨_,rfl⟩;have s2:St w.heap.size w W1 (Qh 175 10 v0 xs.length (xs.flatMap Gf)::Qa g7 46 #[.string ⟨pa.toArray⟩,.int .i64 ma,.int .i64 mi,.int .i64 pt,.slice A' n' c',.string ⟨ar.toArray⟩,.string ⟨ifc.toArray⟩,.string ⟨ce.toArray⟩,.bool false]::([Qa (w.heap.size+1+1+1+1) 121 #[.slice rA rN rC,.map (some (w.heap.size+1)),.map (some (w.heap.size+1+1)),.slice none 0 0,.slice none 0 0,.map (some (w.heap.size+1+1+1)),.bool false,.slice none 0 0,.slice none 0 0,.slice none 0 0],Zw 9 (w.heap.size+1) n1 M1,Zw 9 (w.heap.size+1+1) 0 (fun _=>none),Zw 152 (w.heap.size+1+1+1) 0 (fun _=>none),Qa w.heap.size 25 #[.slice (some ⟨b,off,none⟩) N c,.slice iA iN iC]]++(Vw R pa).map Vm)) :=(by rw[←hW1,←hg7];exact s2);have fz:=s2.tail.blk.frozen 8;obtain⟨r0,r1,r2,r3,r4,r5,r6,r7,r8⟩:=Ip s2.tail.blk;have s3:=s2.swap.set_ 8 (.bool false);simp only[List.setIfInBounds_toArray,List.set_cons_zero,List.set_cons_succ] at s3;obtain⟨W2,hW2⟩:∃ W2,W1.setCell ⟨g7,8,none⟩ (.bool false)=W2:=⟨_,rfl⟩;rw[hW2] at s3;obtain⟨q0,q1,q2,q3,q4,q5,q6,q7,q8⟩:=Ip s3.blk;have S2:=Kd s3.swap;clear s1 s2 s3 hskip hstep hput hrow;go_wp2_with fail;refine(kk _).mono ?_;rintro e w3 ⟨rfl,z3⟩;have y3:=S2.out.under z3;have hl:∀ W',St w.heap.size w W' [Zw 9 (w.heap.size+1) n1 M1]→(Instr.lookup 114 (.map (some (w.heap.size+1))) (.string ⟨pa.toArray⟩) false).run prog W'=.ok v0 W':=fun W' ht=>by have:=ht.mp.look J8 underlying114 (Id W') (Zb pa hml);rw[lk] at this;exact this
    have f0:∀ W',St w.heap.size w W' [Qa (w.heap.size+1+1+1+1) 121 #[.slice rA rN rC,.map (some (w.heap.size+1)),.map (some (w.heap.size+1+1)),.slice none 0 0,.slice none 0 0,.map (some (w.heap.size+1+1+1)),.bool false,.slice none 0 0,.slice none 0 0,.slice none 0 0],Qa g7 46 #[.string ⟨pa.toArray⟩,.int .i64 ma,.int .i64 mi,.int .i64 pt,.slice A' n' c',.string ⟨ar.toArray⟩,.string ⟨ifc.toArray⟩,.string ⟨ce.toArray⟩,.bool false]]→(W'.cell? ⟨w.heap.size+1+1+1+1,1,none⟩=some (.map (some (w.heap.size+1)))∧W'.cell? ⟨g7,0,none⟩=some (.string ⟨pa.toArray⟩)∧W'.cell? ⟨g7,1,none⟩=some (.int .i64 ma)∧W'.cell? ⟨g7,2,none⟩=some (.int .i64 mi)∧W'.cell? ⟨g7,3,none⟩=some (.int .i64 pt)∧W'.cell? ⟨g7,4,none⟩=some (.slice A' n' c')∧W'.cell? ⟨g7,5,none⟩=some (.string ⟨ar.toArray⟩)∧W'.cell? ⟨g7,6,none⟩=some (.string ⟨ifc.toArray⟩)∧W'.cell? ⟨g7,7,none⟩=some (.string ⟨ce.toArray⟩)∧W'.cell? ⟨g7,8,none⟩=some (.bool false)):=fun W' hW=>⟨hW.blk.cell 1,Ip hW.tail.blk⟩;have F0:=Kd f0;have l1:=hl _ (y3.pk [3]);have l2:=hl _ (y3.drew.pk [3]);have l3:=hl _ ((y3.alloc0 (.cells #[.int .i64 pl,.string ⟨pa.toArray⟩,.int .i64 ma,.int .i64 mi,.int .i64 pt,.slice A' n' c',.string ⟨ar.toArray⟩,.string ⟨ifc.toArray⟩,.string ⟨ce.toArray⟩,.bool false] 175)).pk [3]);have l4:=hl _ ((y3.alloc0 (.cells #[.int .i64 pl,.string ⟨pa.toArray⟩,.int .i64 ma,.int .i64 mi,.int .i64 pt,.slice A' n' c',.string ⟨ar.toArray⟩,.string ⟨ifc.toArray⟩,.string ⟨ce.toArray⟩,.bool false] 175)).drew.pk [3]);have l5:=hl _ ((y3.drew.alloc0 (.cells #[.int .i64 pl,.string ⟨pa.toArray⟩,.int .i64 ma,.int .i64 mi,.int .i64 pt,.slice A' n' c',.string ⟨ar.toArray⟩,.string ⟨ifc.toArray⟩,.string ⟨ce.toArray⟩,.bool false] 175)).drew.pk [3]);have l6:=hl _ ((y3.drew.alloc0 (.cells #[.int .i64 pl,.string ⟨pa.toArray⟩,.int .i64 ma,.int .i64 mi,.int .i64 pt,.slice A' n' c',.string ⟨ar.toArray⟩,.string ⟨ifc.toArray⟩,.string ⟨ce.toArray⟩,.bool false] 175)).pk [3]);have Z3:=Kd y3;have hone:∀ u∈(#[.int .i64 pl,.string ⟨pa.toArray⟩,.int .i64 ma,.int .i64 mi,.int .i64 pt,.slice A' n' c',.string ⟨ar.toArray⟩,.string ⟨ifc.toArray⟩,.string ⟨ce.toArray⟩,.bool false]:Array Value).toList,u.oneCell'=true:=fun u hu=>by simp at hu;rcases hu with rfl|rfl|rfl|rfl|rfl|rfl|rfl|rfl|rfl|rfl<;>rfl
    have qq1:xs.length+1≤maxLen :=(by unfold maxLen;omega);have qq2:(xs.length+1)*128≤140737488355328 :=(by omega);have hnm1:n1<maxLen :=(by unfold maxLen;omega);clear f0 y3 z3 hl S2 q0 q1 q2 q3 q4 q5 q6 q7 q8 r0 r1 r2 r3 r4 r5 r6 r7 r8 fz hW2 hW1;go_wp2_with fail;apply Xt (fun (pG gg cap:Nat) w'=>St w.heap.size w w' (Zw 9 (w.heap.size+1) (n1+1) (Jq M1 (.string pa) (.slice (some ⟨gg,0,none⟩) (xs.length+1) cap))::Qh 175 10 (.slice (some ⟨gg,0,none⟩) (xs.length+1) cap) (xs.length+1) (xs.flatMap Gf++[.int .i64 pl,.string ⟨pa.toArray⟩,.int .i64 ma,.int .i64 mi,.int .i64 pt,.slice A' n' c',.string ⟨ar.toArray⟩,.string ⟨ifc.toArray⟩,.string ⟨ce.toArray⟩,.bool false])::Qa g7 46 #[.string ⟨pa.toArray⟩,.int .i64 ma,.int .i64 mi,.int .i64 pt,.slice A' n' c',.string ⟨ar.toArray⟩,.string ⟨ifc.toArray⟩,.string ⟨ce.toArray⟩,.bool false]::Qa (w.heap.size+1+1+1+1) 121 #[.slice rA rN rC,.map (some (w.heap.size+1)),.map (some (w.heap.size+1+1)),.slice none 0 0,.slice none 0 0,.map (some (w.heap.size+1+1+1)),.bool false,.slice none 0 0,.slice none 0 0,.slice none 0 0]::Zw 9 (w.heap.size+1+1) 0 (fun _=>none)::Zw 152 (w.heap.size+1+1+1) 0 (fun _=>none)::Qa w.heap.size 25 #[.slice (some ⟨b,off,none⟩) N c,.slice iA iN iC]::(Vw R pa).map Vm))
    case h=>
     refine wp_region_noPanic ?_;refine wp_region_held_drew (S:=(fun W'=>W'.cell? ⟨w.heap.size+1+1+1+1,1,none⟩=some (.map (some (w.heap.size+1)))∧W'.cell? ⟨g7,0,none⟩=some (.string ⟨pa.toArray⟩)∧W'.cell? ⟨g7,1,none⟩=some (.int .i64 ma)∧W'.cell? ⟨g7,2,none⟩=some (.int .i64 mi)∧W'.cell? ⟨g7,3,none⟩=some (.int .i64 pt)∧W'.cell? ⟨g7,4,none⟩=some (.slice A' n' c')∧W'.cell? ⟨g7,5,none⟩=some (.string ⟨ar.toArray⟩)∧W'.cell? ⟨g7,6,none⟩=some (.string ⟨ifc.toArray⟩)∧W'.cell? ⟨g7,7,none⟩=some (.string ⟨ce.toArray⟩)∧W'.cell? ⟨g7,8,none⟩=some (.bool false))) (by kernel_rfl) ?_ (fun hH0=>?_)
     ·exact F0.out _ (Z3.out.drew.pk [2,1])
     refine tk 0 33 hH0 ?_;refine tk 1 34 hH0 ?_;refine tk 2 35 hH0 ?_;refine tk 3 36 hH0 ?_;refine tk 4 37 hH0 ?_;refine tk 5 38 hH0 ?_;refine tk 6 39 hH0 ?_;refine tk 7 40 hH0 ?_;refine tk 8 41 hH0 ?_;refine tk 9 42 hH0 ?_;refine tk 10 43 hH0 ?_;refine tk 11 44 hH0 ?_;refine tk 13 46 hH0 ?_;refine tk 14 47 hH0 ?_;refine tk 15 48 hH0 ?_;refine Zk [12,16] ?_;refine ad 45 (fun K hK=>?_) ?_;go_simp;refine hK.out _ _ ?_ (fun hH1=>?_)
     ·exact F0.out _ (Z3.out.drew.pk [2,1])
     clear hK K hH0
     try simp only[pu]
     refine Zk [16] ?_;refine an 49 fun K hK=>?_;go_simp;refine hK.out _ _ ?_ (fun hH2=>?_)
     ·exact F0.out _ ((Z3.out.alloc0 _).drew.pk [2,1])
     clear hK K hH1
     try simp only[pu]
     refine Zk [17] ?_;refine an 50 fun K hK=>?_
     (
      refine Ee 118 (te:=175) #[.int .i64 pl,.string ⟨pa.toArray⟩,.int .i64 ma,.int .i64 mi,.int .i64 pt,.slice A' n' c',.string ⟨ar.toArray⟩,.string ⟨ifc.toArray⟩,.string ⟨ce.toArray⟩,.bool false] Z3.out underlying118 Ku rfl (by decide) _ _ (by rfl) (by rfl) (by rfl) (by rfl) rfl hone qq1 qq2 ?_;intro gg cap w5 h8
      have h8':St w.heap.size w w5 (Zw 9 (w.heap.size+1) n1 M1::Qh 175 10 (.slice (some ⟨gg,0,none⟩) (xs.length+1) cap) (xs.length+1) (xs.flatMap Gf++[.int .i64 pl,.string ⟨pa.toArray⟩,.int .i64 ma,.int .i64 mi,.int .i64 pt,.slice A' n' c',.string ⟨ar.toArray⟩,.string ⟨ifc.toArray⟩,.string ⟨ce.toArray⟩,.bool false])::Qa g7 46 #[.string ⟨pa.toArray⟩,.int .i64 ma,.int .i64 mi,.int .i64 pt,.slice A' n' c',.string ⟨ar.toArray⟩,.string ⟨ifc.toArray⟩,.string ⟨ce.toArray⟩,.bool false]::Qa (w.heap.size+1+1+1+1) 121 #[.slice rA rN rC,.map (some (w.heap.size+1)),.map (some (w.heap.size+1+1)),.slice none 0 0,.slice none 0 0,.map (some (w.heap.size+1+1+1)),.bool false,.slice none 0 0,.slice none 0 0,.slice none 0 0]::Zw 9 (w.heap.size+1+1) 0 (fun _=>none)::Zw 152 (w.heap.size+1+1+1) 0 (fun _=>none)::Qa w.heap.size 25 #[.slice (some ⟨b,off,none⟩) N c,.slice iA iN iC]::(Vw R pa).map Vm):=h8.front 3 (by simp))
     refine hK.out _ _ ?_ (fun hH3=>?_)
     ·exact F0.out _ (h8.pk [2,1])
     clear hK K hH2
     try simp only[pu]
     refine Zk [18] ?_;refine az fun K hK=>?_
     (
      refine X4 114 h8' J8 underlying114 rfl _ _ _ rfl (by rfl) hnm1 (by rfl) (by rfl) (Zb pa hml) ?_
      intro w6 h9)
     refine hK.out _ _ ?_ (fun hH4=>?_)
     ·exact F0.out _ (h9.pk [3,2])
     clear hK K hH3
     try simp only[pu]
     refine dn ?_ _;rotate_left 1;refine an 49 fun K hK=>?_;go_simp;refine hK.out _ _ ?_ (fun hH5=>?_)
     ·exact F0.out _ ((Z3.out.alloc0 _).drew.pk [2,1])
     clear hK K hH0
     try simp only[pu]
     refine Zk [12] ?_;refine an 45 fun K hK=>?_;go_simp;refine hK.out _ _ ?_ (fun hH6=>?_)
     ·exact F0.out _ ((Z3.out.alloc0 _).drew.pk [2,1])
     clear hK K hH5
     try simp only[pu]
     refine Zk [17] ?_;refine an 50 fun K hK=>?_
     (
      refine Ee 118 (te:=175) #[.int .i64 pl,.string ⟨pa.toArray⟩,.int .i64 ma,.int .i64 mi,.int .i64 pt,.slice A' n' c',.string ⟨ar.toArray⟩,.string ⟨ifc.toArray⟩,.string ⟨ce.toArray⟩,.bool false] Z3.out underlying118 Ku rfl (by decide) _ _ (by rfl) (by rfl) (by rfl) (by rfl) rfl hone qq1 qq2 ?_;intro gg cap w5 h8
      have h8':St w.heap.size w w5 (Zw 9 (w.heap.size+1) n1 M1::Qh 175 10 (.slice (some ⟨gg,0,none⟩) (xs.length+1) cap) (xs.length+1) (xs.flatMap Gf++[.int .i64 pl,.string ⟨pa.toArray⟩,.int .i64 ma,.int .i64 mi,.int .i64 pt,.slice A' n' c',.string ⟨ar.toArray⟩,.string ⟨ifc.toArray⟩,.string ⟨ce.toArray⟩,.bool false])::Qa g7 46 #[.string ⟨pa.toArray⟩,.int .i64 ma,.int .i64 mi,.int .i64 pt,.slice A' n' c',.string ⟨ar.toArray⟩,.string ⟨ifc.toArray⟩,.string ⟨ce.toArray⟩,.bool false]::Qa (w.heap.size+1+1+1+1) 121 #[.slice rA rN rC,.map (some (w.heap.size+1)),.map (some (w.heap.size+1+1)),.slice none 0 0,.slice none 0 0,.map (some (w.heap.size+1+1+1)),.bool false,.slice none 0 0,.slice none 0 0,.slice none 0 0]::Zw 9 (w.heap.size+1+1) 0 (fun _=>none)::Zw 152 (w.heap.size+1+1+1) 0 (fun _=>none)::Qa w.heap.size 25 #[.slice (some ⟨b,off,none⟩) N c,.slice iA iN iC]::(Vw R pa).map Vm):=h8.front 3 (by simp))
     refine hK.out _ _ ?_ (fun hH7=>?_)
     ·exact F0.out _ (h8.pk [2,1])
     clear hK K hH6
     try simp only[pu]
     refine Zk [18] ?_;refine az fun K hK=>?_
     (
      refine X4 114 h8' J8 underlying114 rfl _ _ _ rfl (by rfl) hnm1 (by rfl) (by rfl) (Zb pa hml) ?_
      intro w6 h9)
     refine hK.out _ _ ?_ (fun hH8=>?_)
     ·exact F0.out _ (h9.pk [3,2])
     clear hK K hH7
     try simp only[pu]
     refine dn ?_ _
     all_goals(refine NoPanic.normal ?_)
     all_goals
      obtain⟨pG,hpG⟩:∃ q,w3.heap.size=q:=⟨_,rfl⟩
      try rw[hpG]
      first
       |exact⟨rfl,pG,gg,cap,rfl,h9⟩
       |exact⟨rfl,pG,gg,cap,rfl,h9.drew⟩
    case k=>
     rintro pG gg cap w4 y4;obtain⟨hpw,hstep,hput,hrow⟩:=HR0.out;have hz:(xs++[(⟨pa,ma,mi,pt,rq,.slice A' n' c',ar,ifc,ce,false⟩:Qi)]).length=xs.length+1 :=(by rw[List.length_append];rfl);rw[show xs.flatMap Gf++[.int .i64 pl,.string ⟨pa.toArray⟩,.int .i64 ma,.int .i64 mi,.int .i64 pt,.slice A' n' c',.string ⟨ar.toArray⟩,.string ⟨ifc.toArray⟩,.string ⟨ce.toArray⟩,.bool false]=(xs++[(⟨pa,ma,mi,pt,rq,.slice A' n' c',ar,ifc,ce,false⟩:Qi)]).flatMap Gf from hrow.symm,←hz] at y4;have y5:=St.putG (p:=pa) (Rs:=[Zw 9 (w.heap.size+1) (n1+1) (Jq M1 (.string pa) (.slice (some ⟨gg,0,none⟩) ((xs++[(⟨pa,ma,mi,pt,rq,.slice A' n' c',ar,ifc,ce,false⟩:Qi)]).length) cap)),Qa g7 46 #[.string ⟨pa.toArray⟩,.int .i64 ma,.int .i64 mi,.int .i64 pt,.slice A' n' c',.string ⟨ar.toArray⟩,.string ⟨ifc.toArray⟩,.string ⟨ce.toArray⟩,.bool false],Qa (w.heap.size+1+1+1+1) 121 #[.slice rA rN rC,.map (some (w.heap.size+1)),.map (some (w.heap.size+1+1)),.slice none 0 0,.slice none 0 0,.map (some (w.heap.size+1+1+1)),.bool false,.slice none 0 0,.slice none 0 0,.slice none 0 0],Zw 9 (w.heap.size+1+1) 0 (fun _=>none),Zw 152 (w.heap.size+1+1+1) 0 (fun _=>none),Qa w.heap.size 25 #[.slice (some ⟨b,off,none⟩) N c,.slice iA iN iC]]) (y4.front 1 (by simp));have y6:=(y5.front 1 (by simp)).tail;have y7:=y6.front 1 (by simp);have Y7:=Kd y7;clear y4 y5 y6 y7 l1 l2 l3 l4 l5 l6 hone qq1 qq2 hnm1;go_wp2
     go_roundw
     case rel=>exact⟨k+1,n1+1,_,(⟨pa,_,xs++[(⟨pa,ma,mi,pt,rq,.slice A' n' c',ar,ifc,ce,false⟩:Qi)]⟩:Ul)::Vw R pa,Nat.succ_le_of_lt KL.out,by go_num,by omega,Kd ⟨hput _ _,hstep _⟩,Kd Y7.out⟩
     case measure=>have:=KL.out;simp[intOf];omega
  ·obtain rfl:k=N:=Nat.le_antisymm hk (Nat.le_of_not_lt hlt)
   have hge:decide ((k:Int)<(k:Int))=false :=(by simp);have c1:=(hst.out.pk [0]).blk.cell 1;have y1:St w.heap.size w wr (Zw 9 (w.heap.size+1) n1 M1::Qa (w.heap.size+1+1+1+1) 121 #[.slice rA rN rC,.map (some (w.heap.size+1)),.map (some (w.heap.size+1+1)),.slice none 0 0,.slice none 0 0,.map (some (w.heap.size+1+1+1)),.bool false,.slice none 0 0,.slice none 0 0,.slice none 0 0]::Zw 9 (w.heap.size+1+1) 0 (fun _=>none)::Zw 152 (w.heap.size+1+1+1) 0 (fun _=>none)::Qa w.heap.size 25 #[.slice A k c,.slice iA iN iC]::R.map Vm):=hst.out.front 1 (by simp);obtain⟨w5,rb,Js,hcn,m5,s5⟩:=y1.mrange 114 J8 underlying114;have HK:=Kd hR.out;have S5:=Kd s5;clear hR hst y1 s5;go_wp2;clear c1 x0
   go_loopw [10] (fun pv wr=>∃(left:Lit→Bool) (Js n2:Nat) (MA:Lit→Option Value) (L:List (Tm.Qk×Value)),n2+Js≤k∧Hid (AvM MA L∧∀ p,(M1 (.string p)).isSome=true→left (.string p)=false→p∈L.map Prod.fst)∧Hid (St w.heap.size w wr (rgR 9 (w.heap.size+1) rb n1 M1 left Js::Qa (w.heap.size+1+1+1+1) 121 #[.slice rA rN rC,.map (some (w.heap.size+1)),.map (some (w.heap.size+1+1)),.slice none 0 0,.slice none 0 0,.map (some (w.heap.size+1+1+1)),.bool false,.slice none 0 0,.slice none 0 0,.slice none 0 0]::avR (X.map Qf) L::Zw 9 (w.heap.size+1+1) n2 MA::Zw 152 (w.heap.size+1+1+1) 0 (fun _=>none)::Qa w.heap.size 25 #[.slice A k c,.slice iA iN iC]::R.map Vm))) (fun _ wr=>wr.rangeLeft (w.heap.size+1) rb)
   case atStart=>exact⟨fun kl=>(M1 kl).isSome,Js,0,fun _=>none,[],by omega,Kd ⟨fun _=>rfl,fun p h1 h2=>by rw[show (M1 (.string p)).isSome=false from h2] at h1;cases h1⟩,Kd (((St.avNil S5.out (X.map Qf)).front 2 (by simp)).front 2 (by simp))⟩
   case round=>
    obtain⟨left,Js,n2,MA,L,hn2,hav,hst⟩:=hrel;rcases hst.out.mnext (fun x:List UInt8=>Value.string ⟨x.toArray⟩) J8 invS 0 with⟨hl,m1⟩|⟨x,u,kl,W1,cnt',hkey,hlk,hMk,m1,m2,hlt,s1⟩
    ·have S9:=Kd hst.out.unrange
     have HL:=Kd hl;clear hst hl;go_wp2;go_ret;refine⟨w.heap.size+1+1+1+1,w.heap.size+1,w.heap.size+1+1,w.heap.size+1+1+1,n1,n2,M1,MA,R,L,rfl,HK.out.1,by rw[HM.out.1];exact HK.out.2,hav.out.1,fun p hp=>hav.out.2 p hp (HL.out _),?_⟩;have y:=(S9.out.front 5 (by simp)).tail;exact((((y.front 2 (by simp)).front 4 (by simp)).front 4 (by simp)).front 3 (by simp)).front 4 (by simp)
    ·obtain⟨rfl,hxl⟩:=Tj hkey
     have kx:=fun W hW=>HM.out.2.2.2.2.2 x W hW hxl;have y1:St w.heap.size w W1 (avR (X.map Qf) L::Qa (w.heap.size+1+1+1+1) 121 #[.slice rA rN rC,.map (some (w.heap.size+1)),.map (some (w.heap.size+1+1)),.slice none 0 0,.slice none 0 0,.map (some (w.heap.size+1+1+1)),.bool false,.slice none 0 0,.slice none 0 0,.slice none 0 0]::rgR 9 (w.heap.size+1) rb n1 M1 (fun z=>left z&&!z.sameKey (.string x)) cnt'::Zw 9 (w.heap.size+1+1) n2 MA::Zw 152 (w.heap.size+1+1+1) 0 (fun _=>none)::Qa w.heap.size 25 #[.slice A k c,.slice iA iN iC]::R.map Vm):=(s1.front 1 (by simp)).front 2 (by simp);have f0:∀ W',St w.heap.size w W' [Qa (w.heap.size+1+1+1+1) 121 #[.slice rA rN rC,.map (some (w.heap.size+1)),.map (some (w.heap.size+1+1)),.slice none 0 0,.slice none 0 0,.map (some (w.heap.size+1+1+1)),.bool false,.slice none 0 0,.slice none 0 0,.slice none 0 0],Qa w.heap.size 25 #[.slice A k c,.slice iA iN iC]]→(W'.cell? ⟨w.heap.size+1+1+1+1,2,none⟩=some (.map (some (w.heap.size+1+1)))∧W'.cell? ⟨w.heap.size,0,none⟩=some (.slice A k c)∧W'.cell? ⟨w.heap.size,1,none⟩=some (.slice iA iN iC)):=fun W' hW=>⟨hW.blk.cell 2,hW.tail.blk.cell 0,hW.tail.blk.cell 1⟩;have F0:=Kd f0;have HC:=Kd3 hlt hst.out.left_eq s1.left_eq;have hnm:n2<maxLen :=(by unfold maxLen;omega);have Y1:=Kd y1;have hn3:n2+1+cnt'≤k :=(by omega);clear f0 y1 hst s1 hMk hlk hlt;go_wp2_with fail;refine wp_region_noPanic ?_;refine wp_region_held_drew (S:=(fun W'=>W'.cell? ⟨w.heap.size+1+1+1+1,2,none⟩=some (.map (some (w.heap.size+1+1)))∧W'.cell? ⟨w.heap.size,0,none⟩=some (.slice A k c)∧W'.cell? ⟨w.heap.size,1,none⟩=some (.slice iA iN iC))) (by kernel_rfl) ?_ (fun hH0=>?_)
     ·exact F0.out _ (Y1.out.drew.pk [1,5])
     refine tk 0 61 hH0 ?_;refine tk 1 62 hH0 ?_;refine tk 2 63 hH0 ?_;refine tk 3 64 hH0 ?_;refine tk 4 65 hH0 ?_;refine tk 5 66 hH0 ?_;refine tk 6 67 hH0 ?_;refine Zk [7] ?_;refine an 68 fun K hK=>?_
     go_simp;(
      with_reducible refine(kx _ Y1.out.drew.below).mono ?_
      rintro e w7 ⟨v9,rfl,z7,hv9⟩
      have y2:St w.heap.size w w7 (Zw 9 (w.heap.size+1+1) n2 MA::avR (X.map Qf) ((x,v9)::L)::Qa (w.heap.size+1+1+1+1) 121 #[.slice rA rN rC,.map (some (w.heap.size+1)),.map (some (w.heap.size+1+1)),.slice none 0 0,.slice none 0 0,.map (some (w.heap.size+1+1+1)),.bool false,.slice none 0 0,.slice none 0 0,.slice none 0 0]::rgR 9 (w.heap.size+1) rb n1 M1 (fun z=>left z&&!z.sameKey (.string x)) cnt'::Zw 152 (w.heap.size+1+1+1) 0 (fun _=>none)::Qa w.heap.size 25 #[.slice A k c,.slice iA iN iC]::R.map Vm):=(Y1.out.drew.avAdd z7 hv9).front 3 (by simp));go_wp2_with fail
     refine hK.out _ _ ?_ (fun hH1=>?_)
     ·exact F0.out _ (y2.pk [2,5])
     clear hK K hH0
     try simp only[pu]
     refine Zk [8] ?_;refine az fun K hK=>?_
     (
      refine X4 115 y2 J8 underlying115 rfl _ _ _ rfl (by rfl) hnm (by rfl) (by rfl) hkey ?_
      intro w8 h9)
     refine hK.out _ _ ?_ (fun hH2=>?_)
     ·exact F0.out _ (h9.pk [2,5])
     clear hK K hH1
     try simp only[pu]
     refine dn ?_ _
     all_goals(refine NoPanic.normal ?_)
     all_goals
      have H9:=Kd h9;clear h9 y2 hv9 z7 kx;go_wp2
      go_roundw
      case rel=>
       refine⟨_,cnt',n2+1,_,(x,v9)::L,hn3,Kd ⟨hav.out.1.put x v9,fun p h1 h2=>?_⟩,Kd (((H9.out.front 1 (by simp)).front 2 (by simp)).front 3 (by simp))⟩;rcases Bool.and_eq_false_iff.1 h2 with h2|h2
       ·exact List.mem_cons_of_mem _ (hav.out.2 p h1 h2)
       ·have:p=x:=by
         rw[Az] at h2;simpa using h2
        rw[this];exact List.mem_cons_self ..
      case measure =>rw[HC.out.2.1,(((H9.out.front 1 (by simp)).front 2 (by simp)).front 3 (by simp)).left_eq];exact HC.out.1
end Go.Proofs.YtiefajiebebgoaaGreatDoor
