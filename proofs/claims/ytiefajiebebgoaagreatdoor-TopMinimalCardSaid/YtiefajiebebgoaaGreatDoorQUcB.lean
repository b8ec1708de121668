/-
  Za of package solver,in the program: one level. Conditions: numbers that fit.
-/
import Derived.Test.YtiefajiebebgoaaGreatDoorQHd
import Derived.Test.YtiefajiebebgoaaGreatDoorQPh
set_option maxRecDepth 50000
set_option maxHeartbeats 16000000
open Go.Proofs.Tryz
namespace Go.Proofs.YtiefajiebebgoaaGreatDoor
set_option linter.unusedVariables false
open Go.RowKit Go.Shelf
attribute [local go_sem] Oper.semAt_some
theorem misfit_get (Ms:List Zq) (m:Nat) (hm:Ms.length=m) (pl:Int) (A:Option Addr) (c g:Nat) (F G:Nat→Prop) (w:World) (hg:w.cell? ⟨g,0,none⟩=some (.int .i64 pl)) (hc1:m≤c) (hc2:c≤maxLen) (hr:Z9 w F A (Ms.flatMap Hn)) (hs:∀ x∈Ms,Qr w G x.2 x.1.q.set):
 Calls prog 94 #[.slice A m c,.func (.func 95) #[] #[.pointer (some ⟨g,0,none⟩)]] w fun e w'=>Below w.heap.size w w'∧((e=.returned (.int .i64 (-1))∧(Ms.map Prod.fst).find? (fun n=>!Tm.has n.q.set pl)=none)∨∃(i:Nat) (x:Zq),i<m∧Ms[i]?=some x∧e=.returned (.int .i64 (i:Int))∧(Ms.map Prod.fst).find? (fun n=>!Tm.has n.q.set pl)=some x.1):=by
 subst hm;refine(Cr Ms pl A c g F G w hg hc1 hc2 hr hs).mono ?_;rintro e w' ⟨z,h⟩;refine⟨z,?_⟩;rcases h with h|⟨i,hi,h1,h2⟩
 ·exact .inl h
 ·exact .inr ⟨i,_,hi,List.getElem?_eq_getElem hi,h1,h2⟩
theorem Gm {V V2:Kc} (h:V.Back V2) (D:List Qi) (k:Nat) (vs:List Value) (R:Q3):O8 V2 D k vs R=[V8 V.dec D,Xy V.cho (D.map Zg),Qh 49 1 V2.skp k vs,R]:=by unfold O8;rw[h.dec,h.cho]
theorem solve_step {lo : Nat} {w0 wS:World} {F:Nat→Prop} {X:List Qi} {roots:List Tm.Qw} {P:List Tm.Qk} {rv:Value} {cb cmn ab amn:Nat} {MC MA:Lit→Option Value} (hS:Ok wS F X roots P rv cb cmn MC ab amn MA) (g f:Nat) (IH:SlvK lo w0 wS F X roots P rv cb ab g f):SlvK lo w0 wS F X roots P rv cb ab g (f+1):=by
 intro w V M S D k vs R h hF hs hD hr hcm ham hDX ho hl hk;obtain⟨res,hres⟩:∃ r,Tm.Za (X.map Qf) roots (f+1) S (D.map Qf)=r:=⟨_,rfl⟩;rw[hres];rw[Tm.Za] at hres;have h0:w.cell? ⟨g,0,none⟩=some rv:=by rw[←hr];exact(h.srCell 0).1
 have h7:w.cell? ⟨g,7,none⟩=some V.dec:=(h.srCell 7).1;have kn:=next_level hS (hF _ _ (h.pick [8] (by decide) (by simp[Z5,O8]))) h0 h7 ((h.pick [5] (by decide) (by simp[Z5,O8])).can) hDX (by omega);have HC:=Kd3 hS hF IH;have HD:=Kd9 hs hD hr hcm ham hDX ho hl hk;have HR:=Kd hres;have Y0:=Kd h;clear hS hF IH hs hD hr hcm ham hDX ho hl hk hres h h0 h7;go_enter func57,ntmps57;go_wp2_with fail;refine kn.mono ?_;rintro e w1 ⟨z1,A,c,Ms,p,rfl,g1,g2,g3,hn,hok,hne⟩;have y1:=Y0.out.newRo z1 g3;have hres:=HR.out;rw[←hn] at hres;dsimp only at hres;clear kn g3
 cases Ms with
 |nil =>have hres:((some (D.map Qf,[]),0,S):Tm.Bg)=res:=hres;subst hres;have Y1:=Kd y1;clear z1 g1 g2 hn hok hne y1 HR;go_wp2;go_ret2;refine⟨V,M,D,[],rfl,rfl,HD.out.2.2.2.2.2.1,HD.out.1,V9.refl HD.out.1.len HD.out.2.1,rfl,?_⟩;have:=Y1.out.tail.skpNil;rw[List.append_nil,List.length_nil,Nat.add_zero];exact this.pick [1,2,3,4,5,0,6,7,8,9] (by decide) (by simp[Z5,O8])
 | cons x0 Mt =>
   obtain⟨hpP,hpd⟩:=hne (List.cons_ne_nil _ _);obtain⟨hS,hF,IH⟩:=HC.out;have kp:=hF _ _ (y1.pick [9] (by decide) (by simp[Z5,O8]));obtain⟨cA0,cc0,ec,gc1,gc2,hrc⟩:=hS.rc p;have hkey:=Zb p (by have:=hS.pk.small p hpP;unfold maxLen;omega);have c1:w1.cell? ⟨g,1,none⟩=some (.map (some cb)) :=(by have:=(St.srCell (g:=g) (V:=V) (M:=M) (S:=S) y1.tail 1).1;have e:(Q5 V S)[1]?=some V.cm:=rfl;rw[e,HD.out.2.2.2.1] at this;exact this);have l1:=(hS.mc.keep kp hS.fc).look J8 underlying114 (zero_cands w1) hkey;rw[ec] at l1;obtain⟨N,hN⟩:∃ N,(Vb X p).length=N:=⟨_,rfl⟩;rw[hN] at l1 gc1;obtain⟨m,hm⟩:∃ m,(x0::Mt).length=m:=⟨_,rfl⟩;rw[hm];have hm1:¬(m:Int)=0 :=(by rw[←hm,List.length_cons];omega);have hm2:((m:Int)==0)=false:=beq_eq_false_iff_ne.2 hm1;have hm0:0<m :=(by rw[←hm,List.length_cons];omega);have hNm:N≤1048576 :=(by have:=hS.lx;have h2:(Vb X p).length≤X.length:=List.length_filter_le ..;omega);have hNN:N≤9223372036854775807 :=(by omega);have HN:=Kd12 hN hm hn hok hpP hpd gc1 gc2 hrc g1 g2 hm0;have HR2:=Kd hres;have HNm:=Kd hNm;obtain⟨Ms,hMs⟩:∃ L,x0::Mt=L:=⟨_,rfl⟩;rw[hMs] at y1;have y2:=(y1.quNil 1 3).quNil 3 156;have y3:St lo w0 w1 (Z5 g V M S++[Ja 1 (.slice none 0 0) 0 [],Ja 3 (.slice none 0 0) 0 [],Xl A (Ms.flatMap Hn),V8 V.dec D,Xy V.cho (D.map Zg),Qh 49 1 V.skp k vs,R]):=y2.pick [3,4,5,6,7,1,0,2,8,9,10,11] (by decide) (by simp[Z5,O8]);have Y3:=Kd y3;clear hpP hpd hS hF IH kp ec gc1 gc2 hrc hN hm hn hok hres y1 y2 y3 z1 g1 g2 hNm hne HR;go_wp2;clear l1 c1 hkey hm2
   go_loopw [34,6,7] (fun i rv kv wr=>∃(j ns:Nat) (V2:Kc) (M2:Lit→Option Value) (S2:Tm.Qv) (rA:Option Addr) (rc:Nat) (rs:List Nat) (kA:Option Addr) (kc:Nat) (sks:List Value),j≤N∧i=.int .i64 j∧rv=.slice rA rs.length rc∧kv=.slice kA ns kc∧Hid (ns≤j∧rs.length≤j∧V.Back V2∧Gg M2 S2∧V9 P S S2∧(∀ r∈rs,r<S2.der.length)∧sks.length=ns*3∧(∀ u∈sks,u.oneCell'=true)∧∃ sk:List Tm.Ol,sk.length=ns∧res=Tm.J7 (X.map Qf) (Tm.Za (X.map Qf) roots f) (D.map Qf) p (Ms.map Prod.fst) x0.1 ((Tm.Zp (X.map Qf) p).drop j) S2 rs sk)∧Hid (St lo w0 wr (Z5 g V2 M2 S2++[Ja 1 (.slice rA rs.length rc) rs.length (Q8 rs),Ja 3 (.slice kA ns kc) ns sks,Xl A (Ms.flatMap Hn),V8 V.dec D,Xy V.cho (D.map Zg),Qh 49 1 V2.skp k vs,R]))) (fun i _ _ _=>N-(intOf i).toNat)
   case atStart=>exact⟨0,0,V,M,S,none,0,[],none,0,[],Nat.zero_le _,rfl,rfl,rfl,Kd ⟨Nat.le_refl _,Nat.le_refl _,Kc.Back.refl V,HD.out.1,V9.refl HD.out.1.len HD.out.2.1,fun r hr=>(by cases hr),rfl,fun u hu=>(by cases hu),[],rfl,by rw[←HR2.out,←hMs];rfl⟩,Y3⟩
   case round =>
    obtain⟨j,ns,V2,M2,S2,rA,rc,rs,kA,kc,sks,hj,rfl,rfl,rfl,hq,hst⟩:=hrel
    by_cases hjN:j<N
    ·obtain ⟨hS, hF, IH⟩ := HC.out
     obtain⟨hN,hm,hn,hok,hpP,hpd,gc1,gc2,hrc,g1,g2,hm0⟩:=HN.out;obtain⟨hns,hrs,hbk,hso,hgr,hrr,hsl,hso1,sk,hskl,hq⟩:=hq.out;have kp:=hF _ _ (hst.out.pick [11] (by decide) (by simp[Z5]));have hjX:j<(Vb X p).length :=(by omega);obtain⟨cd,hcd⟩:∃ r,(Vb X p)[j]=r:=⟨_,rfl⟩;have hcm:cd∈Vb X p :=(by rw[←hcd];exact List.getElem_mem hjX);obtain⟨hcX,hcp⟩:=List.mem_filter.1 hcm;rw[Bool.and_eq_true,beq_iff_eq] at hcp
     have hdrop:(Tm.Zp (X.map Qf) p).drop j=Qf cd::(Tm.Zp (X.map Qf) p).drop (j+1):=by
      have hl:j<(Tm.Zp (X.map Qf) p).length :=(by rw[←Up,List.length_map];exact hjX);rw[List.drop_eq_getElem_cons hl]
      congr 1
      have:(Tm.Zp (X.map Qf) p)[j]=((Vb X p).map Qf)[j]'(by rw[List.length_map];exact hjX):=by
       congr 1
       exact(Up X p).symm
      rw[this,List.getElem_map,hcd]
     rw[hdrop,Tm.J7] at hq;obtain⟨b,off,eb,hbl,q0,q1,q2,q3,q4,q5,q6,q7,q8,q9⟩:=Dw (hrc.keep kp) hjX;rw[hcd] at q0 q1 q2 q3 q4 q5 q6 q7 q8 q9;obtain⟨cA,cc,cM,ecM,erv,-,-,hcr,hcs⟩:=hS.rq cd hcX;obtain⟨cn,hcn⟩:∃ n,cM.length=n:=⟨_,rfl⟩;rw[erv,hcn] at q5;rw[hcp.1] at q1;have hpl:(Qf cd).place=Jt cd:=rfl;have hcapl:Gf cd=.int .i64 (Jt cd)::.string ⟨p.toArray⟩::.int .i64 cd.major::.int .i64 cd.minor::.int .i64 cd.patch::.slice cA cn cc::.string ⟨cd.arch.toArray⟩::.string ⟨cd.iface.toArray⟩::.string ⟨cd.cert.toArray⟩::.bool cd.yank::[] :=(by unfold Gf Xi;rw[erv,hcn,hcp.1]);have hsel:Wm (Zg cd)=[.string ⟨p.toArray⟩,.int .i64 cd.major,.int .i64 cd.minor,.int .i64 cd.patch]:=by unfold Wm Zg;rw[hcp.1]
     have kcl:∀(W:World) (G:Nat→Prop) (v:Value),W.cell? ⟨g,7,none⟩=some v→Vd W G v D→Qm F wS W→Calls prog 99 #[.pointer (some ⟨g,0,none⟩),.agg #[.int .i64 (Jt cd),.string ⟨p.toArray⟩,.int .i64 cd.major,.int .i64 cd.minor,.int .i64 cd.patch,.slice cA cn cc,.string ⟨cd.arch.toArray⟩,.string ⟨cd.iface.toArray⟩,.string ⟨cd.cert.toArray⟩,.bool cd.yank]] W fun e w'=>Below W.heap.size W w'∧e=.returned (match K5 D cd cM with|none=>.tuple #[.agg #[.string ⟨#[]⟩,.slice none 0 0,.string ⟨#[]⟩,.int .i64 0,.int .i64 0],.bool false]|some x=>.tuple #[M9 x,.bool true]):=fun W G v hv hc hk=>by
      have:=clash_spec D cd cM cA cc v (fun k=>G k∨F k) g W hv (hc.mono fun k hk=>.inl hk) (fun r hr=>by
       obtain⟨A,c,M,-,e,-⟩:=hS.rq r (HD.out.2.2.2.2.2.1 r hr)
       exact⟨A,_,c,e⟩) (by rw[erv]) ((hcr.keep hk).mono fun k hk=>.inr hk) (fun m hm=>((hcs m hm).keep hk).mono fun k hk=>.inr hk) (by
        have:=(hS.sm cd hcX).1;rw[←ecM,List.length_map] at this
        exact this) (by have:=HD.out.2.2.2.2.2.2.2.1;omega)
      rw[erv,hcn,hcp.1] at this;exact this
     have kmi:∀(W:World) (G:Nat→Prop) (g9:Nat),W.cell? ⟨g9,0,none⟩=some (.int .i64 (Jt cd))→Z9 W G A (Ms.flatMap Hn)→Qm F wS W→Calls prog 94 #[.slice A m c,.func (.func 95) #[] #[.pointer (some ⟨g9,0,none⟩)]] W fun e w'=>Below W.heap.size W w'∧((e=.returned (.int .i64 (-1))∧(Ms.map Prod.fst).find? (fun n=>!Tm.has n.q.set (Jt cd))=none)∨∃(i:Nat) (x:Zq),i<m∧Ms[i]?=some x∧e=.returned (.int .i64 (i:Int))∧(Ms.map Prod.fst).find? (fun n=>!Tm.has n.q.set (Jt cd))=some x.1):=fun W G g9 h9 hrd hk=>by exact misfit_get Ms m (by rw[←hMs];exact hm) (Jt cd) A c g9 G F W h9 (by rw[←hm];exact g1) g2 hrd (fun x hx=>(hok x (by rw[hMs];exact hx)).1.set.keep hk)
     have KCL:=Kd kcl;have KMI:=Kd kmi;have HQ0:=Kd10 hns hrs hbk hso hgr hrr hsl hso1 hjN hskl;have HCD:=Kd9 hcX hcp hcapl hsel ecM erv hcn hcr hcs;have hqq:=hq;rw[hpl] at hqq;obtain⟨tc,htc⟩:∃ r,Qf cd=r:=⟨_,rfl⟩;rw[htc] at hqq;have HTC:=Kd htc;clear htc hq hskl kcl kmi hS hF IH hN hm hn hok hpP hpd gc1 gc2 hrc g1 g2 hm0 hns hrs hbk hso hgr hrr hsl hso1 kp hjX hcm hcX hcp hdrop ecM erv hcr hcs hcn hpl hcd;generalize Jt cd=pl at q0 hqq KMI KCL hcapl;generalize cd.major=cj at q2 KCL hcapl hsel;generalize cd.minor=ci at q3 KCL hcapl hsel;generalize cd.patch=ct at q4 KCL hcapl hsel;generalize cd.arch=car at q6 KCL hcapl;generalize cd.iface=cif at q7 KCL hcapl;generalize cd.cert=cce at q8 KCL hcapl;generalize cd.yank=cy at q9 KCL hcapl;have HCA:=Kd2 hcapl hsel;have HQ:=Kd hqq;clear hcapl hsel hqq;have y1:=hst.out.alloc 175 #[.int .i64 pl,.string ⟨p.toArray⟩,.int .i64 cj,.int .i64 ci,.int .i64 ct,.slice cA cn cc,.string ⟨car.toArray⟩,.string ⟨cif.toArray⟩,.string ⟨cce.toArray⟩,.bool cy];obtain⟨g9,hg9⟩:∃ g,wr.heap.size=g:=⟨_,rfl⟩;obtain⟨W1,hW1⟩:∃ W,wr.alloc (.cells #[.int .i64 pl,.string ⟨p.toArray⟩,.int .i64 cj,.int .i64 ci,.int .i64 ct,.slice cA cn cc,.string ⟨car.toArray⟩,.string ⟨cif.toArray⟩,.string ⟨cce.toArray⟩,.bool cy] 175)=W:=⟨_,rfl⟩;rw[hW1,hg9] at y1;have y1:St lo w0 W1 (Z5 g V2 M2 S2++[Ja 1 (.slice rA rs.length rc) rs.length (Q8 rs),Ja 3 (.slice kA ns kc) ns sks,Xl A (Ms.flatMap Hn),V8 V.dec D,Xy V.cho (D.map Zg),Qh 49 1 V2.skp k vs,R,Qa g9 175 #[.int .i64 pl,.string ⟨p.toArray⟩,.int .i64 cj,.int .i64 ci,.int .i64 ct,.slice cA cn cc,.string ⟨car.toArray⟩,.string ⟨cif.toArray⟩,.string ⟨cce.toArray⟩,.bool cy]]):=y1.pick [1,2,3,4,5,6,7,8,9,10,11,12,0] (by decide) (by simp[Z5]);have i0:(0:Int)≤(j:Int):=Int.natCast_nonneg _;have i1:(j:Int)<(N:Int):=Int.ofNat_lt.2 hjN;have c6:W1.cell? ⟨g,6,none⟩=some (.bool S2.full):=(y1.srCell 6).1;have ki:=KMI.out W1 _ g9 ((y1.pick [12] (by decide) (by simp[Z5])).blk.cell 0) ((y1.pick [7] (by decide) (by simp[Z5])).ro) (HC.out.2.1 _ _ (y1.pick [11] (by decide) (by simp[Z5])));have Y1:=Kd y1;subst eb;clear hst y1;obtain⟨fu,hfu⟩:∃ b,S2.full=b:=⟨_,rfl⟩;rw[hfu] at c6;have HFU:=Kd hfu;clear hfu
     cases fu with
     |true =>clear ki;go_wp2;go_ret2;have hq:=HQ.out;rw[if_pos HFU.out] at hq;subst hq;obtain⟨hns,hrs,hbk,hso,hgr,-⟩:=HQ0.out;exact⟨V2,M2,rfl,hbk,hso,hgr,.inl HFU.out,by rw[Gm hbk];exact Y1.out.pick [0,1,2,3,4,8,9,10,11] (by decide) (by simp[Z5])⟩
     | false =>
       go_wp2_with fail;refine ki.mono ?_;rintro e wB ⟨z2,h2⟩;have y2:=Y1.out.under z2;rcases h2 with⟨rfl,hmis⟩|⟨i,x,him,hix,rfl,hmis⟩
       ·have hq := HQ.out
        rw[if_neg (by rw[HFU.out];exact Bool.false_ne_true),hmis] at hq;dsimp only at hq;obtain⟨sA,sC,hcho,sc1,sc2,-⟩:=(y2.pick [9] (by decide) (by simp[Z5])).cho;obtain⟨dnn,hdn⟩:∃ n,(D.map Zg).length=n:=⟨_,rfl⟩;rw[hdn] at hcho sc1;have hdl:dnn=D.length :=(by rw[←hdn,List.length_map]);have hdm:dnn≤1000000 :=(by rw[hdl];have:=HD.out.2.2.2.2.2.2.2.1;omega);have hc8:V2.cho=.slice sA dnn sC :=(by rw[HQ0.out.2.2.1.cho,hcho]);have y3:St lo w0 wB ([Qa g9 175 #[.int .i64 pl,.string ⟨p.toArray⟩,.int .i64 cj,.int .i64 ci,.int .i64 ct,.slice cA cn cc,.string ⟨car.toArray⟩,.string ⟨cif.toArray⟩,.string ⟨cce.toArray⟩,.bool cy],Qa g 121 (Q5 V2 S2)]++[Zw 152 V2.km S2.infs.length M2,Qh 152 6 (.slice V2.iA S2.infs.length V2.iC) S2.infs.length (S2.infs.flatMap Xj),Qh 192 1 (.slice V2.dA S2.infs.length V2.dC) S2.infs.length V2.dvs,Yy V2.dvs S2.der,Ja 1 (.slice rA rs.length rc) rs.length (Q8 rs),Ja 3 (.slice kA ns kc) ns sks,Xl A (Ms.flatMap Hn),V8 V.dec D,Xy V.cho (D.map Zg),Qh 49 1 V2.skp k vs,R]):=y2.pick [12,0,1,2,3,4,5,6,7,8,9,10,11] (by decide) (by simp[Z5]);obtain⟨Fr,hFr⟩:∃ L,([Zw 152 V2.km S2.infs.length M2,Qh 152 6 (.slice V2.iA S2.infs.length V2.iC) S2.infs.length (S2.infs.flatMap Xj),Qh 192 1 (.slice V2.dA S2.infs.length V2.dC) S2.infs.length V2.dvs,Yy V2.dvs S2.der,Ja 1 (.slice rA rs.length rc) rs.length (Q8 rs),Ja 3 (.slice kA ns kc) ns sks,Xl A (Ms.flatMap Hn),V8 V.dec D,Xy V.cho (D.map Zg),Qh 49 1 V2.skp k vs,R]:List Q3)=L:=⟨_,rfl⟩;rw[hFr] at y3;have y3:St lo w0 wB [Qa g9 175 #[.int .i64 pl,.string ⟨p.toArray⟩,.int .i64 cj,.int .i64 ci,.int .i64 ct,.slice cA cn cc,.string ⟨car.toArray⟩,.string ⟨cif.toArray⟩,.string ⟨cce.toArray⟩,.bool cy],Qa g 121 (Q5 V2 S2),Zm Fr]:=y3.frameIn;have HFr:=Kd hFr;have kc:∀(W:World) (Rs:List Q3),St lo w0 W Rs→St lo w0 W [Zm Fr]→Calls prog 58 #[.slice sA dnn sC] W fun e w'=>∃ A' c',e=.returned (.slice A' dnn c')∧St lo w0 w' (Ja 4 (.slice A' dnn c') dnn ((D.map Zg).flatMap Wm)::Rs):=fun W Rs hW hG=>by have hu:=St.ungroup (Rs:=[]) hG;rw[List.append_nil,←HFr.out] at hu;obtain⟨sA',sC',e,-,-,hrd⟩:=(hu.pk [8]).cho;rw[hcho,hdn] at e;obtain⟨rfl,-,rfl⟩:=Value.slice.inj e;refine(Hz sA dnn sC _ _ W hrd (Bp _) (by rw[Hl,hdn]) (by omega)).mono ?_;rintro e w' ⟨A',c',rfl,y⟩;exact⟨A',c',rfl,(hW.graft y).toQu⟩
        have f0:∀ W',St lo w0 W' [Qa g9 175 #[.int .i64 pl,.string ⟨p.toArray⟩,.int .i64 cj,.int .i64 ci,.int .i64 ct,.slice cA cn cc,.string ⟨car.toArray⟩,.string ⟨cif.toArray⟩,.string ⟨cce.toArray⟩,.bool cy],Qa g 121 (Q5 V2 S2)]→W'.cell? ⟨g,8,none⟩=some (.slice sA dnn sC)∧W'.cell? ⟨g9,2,none⟩=some (.int .i64 cj)∧W'.cell? ⟨g9,3,none⟩=some (.int .i64 ci)∧W'.cell? ⟨g9,4,none⟩=some (.int .i64 ct):=fun W' hW=>⟨by
         have:=hW.tail.blk.cell 8;have e:(Q5 V2 S2)[8]?=some V2.cho:=rfl;rw[e,hc8] at this
         exact this,hW.blk.cell 2,hW.blk.cell 3,hW.blk.cell 4⟩
        have hone:∀ u∈([.string ⟨p.toArray⟩,.int .i64 cj,.int .i64 ci,.int .i64 ct]:List Value),u.oneCell'=true:=fun u hu=>by simp at hu;rcases hu with rfl|rfl|rfl|rfl<;>rfl
        have ha1:dnn+1≤maxLen :=(by unfold maxLen;omega);have ha2:(dnn+1)*40≤140737488355328 :=(by omega);have HA:=Kd3 hone ha1 ha2;have F0:=Kd f0;have KC:=Kd kc;have Y1:=Kd y3;have HQ2:=Kd5 hq hdn hdl hcho hc8;clear ki z2 y2 y3 hmis hq sc1 sc2 hdn hcho hc8 hdl hFr kc f0 hone ha1 ha2;clear c6 i0 i1 hm1 q0 q1 q2 q3 q4 q5 q6 q7 q8 q9 hbl hW1 hg9 hMs;go_wp2_with fail;apply Sn (fun (pG:Nat) (A2:Option Addr) (c2:Nat) (A6:Option Addr) (c6:Nat) w'=>St lo w0 w' [Ja 4 (.slice A6 (dnn+1) c6) (dnn+1) ((D.map Zg).flatMap Wm++[.string ⟨p.toArray⟩,.int .i64 cj,.int .i64 ci,.int .i64 ct]),Qa g9 175 #[.int .i64 pl,.string ⟨p.toArray⟩,.int .i64 cj,.int .i64 ci,.int .i64 ct,.slice cA cn cc,.string ⟨car.toArray⟩,.string ⟨cif.toArray⟩,.string ⟨cce.toArray⟩,.bool cy],Qa g 121 (Q5 V2 S2),Zm Fr])
        case h=>
         have hone:=HA.out.1;have ha1:=HA.out.2.1;have ha2:=HA.out.2.2;refine wp_region_noPanic ?_;refine wp_region_held_drew (S:=(fun W'=>W'.cell? ⟨g,8,none⟩=some (.slice sA dnn sC)∧W'.cell? ⟨g9,2,none⟩=some (.int .i64 cj)∧W'.cell? ⟨g9,3,none⟩=some (.int .i64 ci)∧W'.cell? ⟨g9,4,none⟩=some (.int .i64 ct))) (by kernel_rfl) ?_ (fun hH0=>?_)
         ·exact F0.out _ (Y1.out.drew.pk [0,1])
         refine tk 0 56 hH0 ?_;refine tk 1 57 hH0 ?_;refine tk 2 58 hH0 ?_;refine tk 3 59 hH0 ?_;refine tk 5 61 hH0 ?_;refine tk 6 62 hH0 ?_;refine tk 7 63 hH0 ?_;refine tk 8 64 hH0 ?_;refine tk 9 65 hH0 ?_;refine Zk [4,10] ?_;refine ad 60 (fun K hK=>?_) ?_
         go_simp;(
          have yG:St lo w0 _ [Zm Fr]:=(Y1.out.drew.pk [2]);with_reducible refine(KC.out _ _ Y1.out.drew yG).mono ?_
          rintro e w2 ⟨A2,c2,rfl,y2⟩);go_wp2_with fail
         refine hK.out _ _ ?_ (fun hH1=>?_)
         ·exact F0.out _ (y2.tail.pk [0,1])
         clear hK K hH0
         try simp only[pu]
         refine Zk [10] ?_;refine an 66 fun K hK=>?_;go_simp;refine hK.out _ _ ?_ (fun hH2=>?_)
         ·exact F0.out _ ((y2.alloc 38 #[.string ⟨p.toArray⟩,.int .i64 cj,.int .i64 ci,.int .i64 ct]).tail.tail.pk [0,1])
         clear hK K hH1
         try simp only[pu]
         refine Zk [11] ?_;refine an 67 fun K hK=>?_
         (
          refine Ut 30 ((y2.alloc 38 #[.string ⟨p.toArray⟩,.int .i64 cj,.int .i64 ci,.int .i64 ct]).pk [1,2,3,4,0]) underlying30 Vx rfl (y2.alloc 38 #[.string ⟨p.toArray⟩,.int .i64 cj,.int .i64 ci,.int .i64 ct]).blkRd (by rfl) (by decide) hone ha1 ha2 _ _ (by rfl) (by rfl) (by rfl) (by rfl) ?_;intro A6 c6 w6 y6'
          have y6:=y6'.pk [0,1,2,3])
         refine hK.out _ _ ?_ (fun hH3=>?_)
         ·exact F0.out _ (y6.tail.pk [0,1])
         clear hK K hH2
         try simp only[pu]
         refine tk 12 11 hH3 ?_;refine dn ?_ _;rotate_left 1;refine an 66 fun K hK=>?_;go_simp;refine hK.out _ _ ?_ (fun hH4=>?_)
         ·exact F0.out _ ((Y1.out.alloc 38 #[.string ⟨p.toArray⟩,.int .i64 cj,.int .i64 ci,.int .i64 ct]).drew.pk [1,2])
         clear hK K hH0
         try simp only[pu]
         refine Zk [4] ?_;refine an 60 fun K hK=>?_
         go_simp;(
          have yG:St lo w0 _ [Zm Fr]:=((Y1.out.alloc 38 #[.string ⟨p.toArray⟩,.int .i64 cj,.int .i64 ci,.int .i64 ct]).drew.pk [3]);with_reducible refine(KC.out _ _ (Y1.out.alloc 38 #[.string ⟨p.toArray⟩,.int .i64 cj,.int .i64 ci,.int .i64 ct]).drew yG).mono ?_
          rintro e w2 ⟨A2,c2,rfl,y2⟩);go_wp2_with fail
         refine hK.out _ _ ?_ (fun hH5=>?_)
         ·exact F0.out _ (y2.tail.tail.pk [0,1])
         clear hK K hH4
         try simp only[pu]
         refine Zk [11] ?_;refine an 67 fun K hK=>?_
         (
          refine Ut 30 (y2.pk [0,2,3,4,1]) underlying30 Vx rfl y2.tail.blkRd (by rfl) (by decide) hone ha1 ha2 _ _ (by rfl) (by rfl) (by rfl) (by rfl) ?_;intro A6 c6 w6 y6'
          have y6:=y6'.pk [0,1,2,3])
         refine hK.out _ _ ?_ (fun hH6=>?_)
         ·exact F0.out _ (y6.tail.pk [0,1])
         clear hK K hH5
         try simp only[pu]
         refine tk 12 11 hH6 ?_;refine dn ?_ _
         all_goals(refine NoPanic.normal ?_)
         all_goals
          first
           | (obtain⟨pG,hpG⟩:∃ q,wB.heap.size=q:=⟨_,rfl⟩
              try rw[hpG]
              exact⟨rfl,pG,A2,c2,A6,c6,rfl,y6⟩)
           | (obtain⟨pG,hpG⟩:∃ q,w2.heap.size=q:=⟨_,rfl⟩
              try rw[hpG]
              exact⟨rfl,pG,A2,c2,A6,c6,rfl,y6⟩)
        case k =>
         rintro pG A2 c2 sA6 sC6 w6 y6;obtain⟨hcX,-,-,-,ecM,-,-,-,hcs⟩:=HCD.out;obtain⟨hq,hdn,hdl,-,-⟩:=HQ2.out;obtain⟨hns,hrs,hbk,hso,hgr,hrr,hsl,hso1,hjN,hskl⟩:=HQ0.out
         have hDc:∀ r∈D++[cd],r∈X:=fun r hr=>by
          rcases List.mem_append.1 hr with hr|hr
          ·exact HD.out.2.2.2.2.2.1 r hr
          ·rw[List.mem_singleton.1 hr]
           exact hcX
         have hrow:(D.map Zg).flatMap Wm++[.string ⟨p.toArray⟩,.int .i64 cj,.int .i64 ci,.int .i64 ct]=((D++[cd]).map Zg).flatMap Wm :=(by rw[List.map_append,List.flatMap_append,←HCA.out.2];simp);rw[hrow] at y6;have y7:=y6.quCho (by rw[List.length_map,List.length_append,hdl];rfl);have y7:=St.ungroup (Ps:=Fr) (Rs:=[Qa g 121 (Q5 V2 S2),Xy (.slice sA6 (dnn+1) sC6) ((D++[cd]).map Zg),Qa g9 175 #[.int .i64 pl,.string ⟨p.toArray⟩,.int .i64 cj,.int .i64 ci,.int .i64 ct,.slice cA cn cc,.string ⟨car.toArray⟩,.string ⟨cif.toArray⟩,.string ⟨cce.toArray⟩,.bool cy]]) (y7.pk [3,2,0,1]);rw[←HFr.out] at y7;have y8:St lo w0 w6 (Z5 g V2 M2 S2++[Ja 1 (.slice rA rs.length rc) rs.length (Q8 rs),Ja 3 (.slice kA ns kc) ns sks,Xl A (Ms.flatMap Hn),V8 V.dec D,Xy V.cho (D.map Zg),Qh 49 1 V2.skp k vs,R,Xy (.slice sA6 (dnn+1) sC6) ((D++[cd]).map Zg),Qa g9 175 #[.int .i64 pl,.string ⟨p.toArray⟩,.int .i64 cj,.int .i64 ci,.int .i64 ct,.slice cA cn cc,.string ⟨car.toArray⟩,.string ⟨cif.toArray⟩,.string ⟨cce.toArray⟩,.bool cy]]):=y7.pk [11,0,1,2,3,4,5,6,7,8,9,10,12,13]
         have ke:=entD_spec S2.der ((D++[cd]).map Zg) (.slice sA6 (dnn+1) sC6) _ _ V2.dA V2.dC g w6 (y8.cell4 hso) (y8.derRd hso) ((y8.pick [12] (by decide) (by simp[Z5])).cho) (fun s hs=>by
          obtain⟨r,hr,rfl⟩:=List.mem_map.1 hs
          exact HC.out.1.ok r (hDc r hr)) (by have:=hso.small;have:=hso.len;omega)
         rw[entD_eq _ _ (fun r hr=>HC.out.1.ok r (hDc r hr)),List.map_append,List.map_singleton,HTC.out] at ke;obtain⟨en,hen⟩:∃ r,Tm.Xk S2.der (D.map Qf++[tc])=r:=⟨_,rfl⟩;rw[hen] at ke hq;have kl:∀ W,Below w6.heap.size w6 W→Calls prog 99 #[.pointer (some ⟨g,0,none⟩),.agg #[.int .i64 pl,.string ⟨p.toArray⟩,.int .i64 cj,.int .i64 ci,.int .i64 ct,.slice cA cn cc,.string ⟨car.toArray⟩,.string ⟨cif.toArray⟩,.string ⟨cce.toArray⟩,.bool cy]] W fun e w'=>Below W.heap.size W w'∧e=.returned (match K5 D cd cM with|none=>.tuple #[.agg #[.string ⟨#[]⟩,.slice none 0 0,.string ⟨#[]⟩,.int .i64 0,.int .i64 0],.bool false]|some x=>.tuple #[M9 x,.bool true]):=fun W hW=>by have yW:=y8.under hW;have h7:W.cell? ⟨g,7,none⟩=some V.dec :=(by have:=(yW.srCell 7).1;have e:(Q5 V2 S2)[7]?=some V2.dec:=rfl;rw[e,hbk.dec] at this;exact this);exact KCL.out W _ V.dec h7 ((yW.pick [8] (by decide) (by simp[Z5])).can) (HC.out.2.1 _ _ (yW.pick [11] (by decide) (by simp[Z5])))
         have hct:Tm.Yf (D.map Qf) tc=(K5 D cd cM).map Prod.fst :=(by rw[←HTC.out,clash_fst D cd cM ecM]);have hclx:∀ x,K5 D cd cM=some x→NdOk wS F P x:=fun x e=>ofF_ok HC.out.1 (d:=(cd,cM)) hcX ecM hcs (List.mem_of_find?_eq_some e);generalize K5 D cd cM=cl at kl hct hclx;rw[hct] at hq;have Y8:=Kd y8;have KL:=Kd2 kl hclx;have HQ3:=Kd4 hq hen hdl hDc;clear hq hcX ecM hcs hdn hdl hns hrs hbk hso hgr hrr hsl hso1 hjN hskl hDc hrow y6 y7 y8 hen kl hct hclx HFr F0 KC HA
         cases en with
         | some r0=>
           go_wp2_with fail;refine ke.mono ?_;rintro e w7 ⟨rfl,z7⟩;clear ke
           have kl7:Calls prog 99 #[.pointer (some ⟨g,0,none⟩),.agg #[.int .i64 pl,.string ⟨p.toArray⟩,.int .i64 cj,.int .i64 ci,.int .i64 ct,.slice cA cn cc,.string ⟨car.toArray⟩,.string ⟨cif.toArray⟩,.string ⟨cce.toArray⟩,.bool cy]] w7 fun e w'=>Below w7.heap.size w7 w'∧∃ b0 a1 n1 c1 b2 i3 i4 bb,e=.returned (.tuple #[.agg #[.string b0,.slice a1 n1 c1,.string b2,.int .i64 i3,.int .i64 i4],.bool bb]):=(KL.out.1 w7 z7).mono fun e w' h=>⟨h.1,by
            rw[h.2]
            cases cl with
            |none=>exact⟨_,_,_,_,_,_,_,_,rfl⟩
            | some x=>
              obtain⟨A,n,c,e⟩:=(KL.out.2 x rfl).set.shape;show ∃ b0 a1 n1 c1 b2 i3 i4 bb,Ending.returned (.tuple #[M9 x,.bool true])=_;unfold M9;rw[e]
              exact⟨_,_,_,_,_,_,_,_,rfl⟩⟩
           have y7:=Y8.out.under z7;obtain⟨q0,q1,q2,q3,q4,q5,q6,q7,q8,q9⟩:=bk10 ((y7.pick [13] (by decide) (by simp[Z5])).blk);have Y7:=Kd y7;clear y7 z7;go_wp2_with fail;refine kl7.mono ?_;rintro e w8 ⟨z8,b0,a1,n1,c1,b2,i3,i4,bb,rfl⟩;clear q0 q1 q2 q3 q4 q5 q6 q7 q8 q9 kl7;have y8:=(Y7.out.under z8).alloc 182 #[.string b0,.slice a1 n1 c1,.string b2,.int .i64 i3,.int .i64 i4];obtain⟨WT,hWT⟩:∃ W,w8.alloc (.cells #[.string b0,.slice a1 n1 c1,.string b2,.int .i64 i3,.int .i64 i4] 182)=W:=⟨_,rfl⟩;rw[hWT] at y8;have yt:St lo w0 WT (Z5 g V2 M2 S2++[Ja 1 (.slice rA rs.length rc) rs.length (Q8 rs),Ja 3 (.slice kA ns kc) ns sks,Xl A (Ms.flatMap Hn),V8 V.dec D,Xy V.cho (D.map Zg),Qh 49 1 V2.skp k vs,R,Qa g9 175 #[.int .i64 pl,.string ⟨p.toArray⟩,.int .i64 cj,.int .i64 ci,.int .i64 ct,.slice cA cn cc,.string ⟨car.toArray⟩,.string ⟨cif.toArray⟩,.string ⟨cce.toArray⟩,.bool cy]]):=y8.pick [1,2,3,4,5,6,7,8,9,10,11,12,14] (by decide) (by simp[Z5]);have Yt:=Kd yt;have HT:=Kd5 HQ0.out.2.2.1 HQ0.out.2.2.2.1 HQ0.out.2.2.2.2.1 (ent_lt HQ3.out.2.1) HQ3.out.1;clear y8 yt z8 Y7;have ht:=HT.out;obtain⟨db,Ar,nr,cr,hdA,hdb,dr,tr⟩:=Yt.out.frameIn.derAt ht.2.1 ht.2.2.2.1;have c4:WT.cell? ⟨g,4,none⟩=some (.slice (some ⟨db,0,none⟩) S2.der.length V2.dC) :=(by have:=Yt.out.cell4 ht.2.1;rw[hdA] at this;exact this);have kcn:=Vq (S2.der.getD r0 []) _ _ p WT tr;obtain⟨I3,hI3⟩:∃ n,S2.der.length=n:=⟨_,rfl⟩;rw[hI3] at c4;have i4:(0:Int)≤(r0:Int):=Int.natCast_nonneg _;have i5:(r0:Int)<(I3:Int):=Int.ofNat_lt.2 (hI3▸ht.2.2.2.1);obtain⟨cn,hcn⟩:∃ b,Tm.Qn (S2.der.getD r0 []) p=b:=⟨_,rfl⟩;rw[hcn] at kcn;have HN3:=Kd2 hcn hI3;clear ht tr hdA hdb hcn hI3;go_wp2_with fail;refine kcn.mono ?_;rintro e w10 ⟨rfl,z10⟩;have y10:=Yt.out.under z10;have Y10:=Kd y10;clear kcn z10 c4 dr i4 i5 Yt
           cases cn with
           |false =>clear y10;go_wp2;go_ret2;obtain⟨hb3,ho3,hg3,hr3,hq3⟩:=HT.out;rw[if_pos HN3.out.1] at hq3;subst hq3;exact⟨V2,M2,rfl,hb3,ho3,hg3,.inr hr3,by rw[Gm hb3];exact Y10.out.pick [0,1,2,3,4,8,9,10,11] (by decide) (by simp[Z5])⟩
           | true=>
             have y11:=y10.alloc 3 #[.int .i64 (r0:Int)];have hrd11:=y11.blkRd;have Y11:=Kd (y11.pick [6,0,1,2,3,4,5,7,8,9,10,11,12,13] (by decide) (by simp[Z5]));have HRD:=Kd hrd11;have hb1:rs.length+1≤maxLen :=(by have:=HQ0.out.2.1;have:=HNm.out;have:=HQ0.out.2.2.2.2.2.2.2.2.1;unfold maxLen;omega);have hb2:(rs.length+1)*8≤140737488355328 :=(by have:=HQ0.out.2.1;have:=HNm.out;have:=HQ0.out.2.2.2.2.2.2.2.2.1;omega);have hb3:ns+1≤maxLen :=(by have:=HQ0.out.1;have:=HNm.out;have:=HQ0.out.2.2.2.2.2.2.2.2.1;unfold maxLen;omega);have hb4:(ns+1)*32≤140737488355328 :=(by have:=HQ0.out.1;have:=HNm.out;have:=HQ0.out.2.2.2.2.2.2.2.2.1;omega);have hone:∀ u∈([.string ⟨p.toArray⟩,.int .i64 pl,.int .i64 (r0:Int)]:List Value),u.oneCell'=true:=fun u hu=>by simp at hu;rcases hu with rfl|rfl|rfl<;>rfl
             have HBB:=Kd3 hb3 hb4 hone;clear y10 y11 hrd11 hb3 hb4 hone
             go_wp2_with (at_builtin;first
              | (refine Jw 54 Y11.out underlying54 Wg rfl HRD.out rfl (by decide) (fun u hu=>by rw[List.mem_singleton.1 hu];rfl) hb1 hb2 rfl _ _ rfl rfl rfl ?_
                 intro A11 c11 w11 h11;have q0:=(h11.pick [13] (by decide) (by simp[Z5])).blk.cell 0;have y12:=h11.alloc 156 #[.string ⟨p.toArray⟩,.int .i64 pl,.int .i64 (r0:Int)];have HRD2:=Kd y12.blkRd;have Y12:=Kd (y12.pick [8,0,1,2,3,4,5,6,7,9,10,11,12,13,14] (by decide) (by simp[Z5]))
                 clear y12 h11 HRD Y11)
              | (refine Jw 49 Y12.out underlying49 Df rfl HRD2.out rfl (by decide) HBB.out.2.2 HBB.out.1 HBB.out.2.1 rfl _ _ rfl rfl rfl ?_
                 intro A12 c12 w12 h12))
             have H12:=Kd h12;clear h12 HRD2 Y12 q0 hb1 hb2;go_wp2
             go_roundw
             case rel=>
              obtain⟨hns,hrs,hbk,hso,hgr,hrr,hsl,hso1,hjN,hskl⟩:=HQ0.out;obtain⟨hb3,ho3,hg3,hr3,hq3⟩:=HT.out;rw[if_neg (by rw[HN3.out.1];exact Bool.true_eq_false.mp)] at hq3;refine⟨j+1,ns+1,V2,M2,S2,A11,c11,rs++[r0],A12,c12,sks++[.string ⟨p.toArray⟩,.int .i64 pl,.int .i64 (r0:Int)],Nat.succ_le_of_lt hjN,by go_num,by rw[List.length_append];rfl,rfl,Kd ⟨by omega,by rw[List.length_append,List.length_singleton];omega,hb3,ho3,hg3,fun x hx=>?_,?_,fun u hu=>?_,sk++[(p,pl,r0)],?_,hq3⟩,Kd ?_⟩
              ·rcases List.mem_append.1 hx with hx|hx
               ·exact hrr x hx
               ·rw[List.mem_singleton.1 hx]
                exact hr3
              ·rw[List.length_append,hsl,Nat.succ_mul]
               rfl
              ·rcases List.mem_append.1 hu with hu|hu
               ·exact hso1 u hu
               ·exact HBB.out.2.2 u hu
              ·rw[List.length_append,hskl]
               rfl
              ·rw[List.length_append,Wt]
               exact H12.out.pick [4,5,6,7,8,2,0,9,10,11,12,13] (by decide) (by simp[Z5])
             case measure=>have:=HQ0.out.2.2.2.2.2.2.2.2.1;simp[intOf];omega
         | none =>
           go_wp2_with fail;refine ke.mono ?_;rintro e w7 ⟨rfl,z7⟩;clear ke;have y7:=Y8.out.under z7;obtain⟨q0,q1,q2,q3,q4,q5,q6,q7,q8,q9⟩:=bk10 ((y7.pick [13] (by decide) (by simp[Z5])).blk);have kl7:=KL.out.1 w7 z7;have Y7:=Kd y7;clear y7 z7
           cases cl with
           | some x=>
             have hxo:=KL.out.2 x rfl;obtain⟨Av,nv,cv,ev⟩:=hxo.set.shape
             have kl8:Calls prog 99 #[.pointer (some ⟨g,0,none⟩),.agg #[.int .i64 pl,.string ⟨p.toArray⟩,.int .i64 cj,.int .i64 ci,.int .i64 ct,.slice cA cn cc,.string ⟨car.toArray⟩,.string ⟨cif.toArray⟩,.string ⟨cce.toArray⟩,.bool cy]] w7 fun e w'=>Below w7.heap.size w7 w'∧e=.returned (.tuple #[.agg #[.string ⟨x.1.q.path.toArray⟩,.slice Av nv cv,.string ⟨x.1.path.toArray⟩,.int .i64 x.1.place,.int .i64 (x.1.number:Int)],.bool true]):=kl7.mono fun e w' h=>⟨h.1,by
              rw[h.2];show Ending.returned (.tuple #[M9 x,.bool true])=_;unfold M9
              rw[ev]⟩
             have hq:res=if Tm.Qn ((Tm.infer S2 x.1).2.der.getD (Tm.infer S2 x.1).1 []) p=false then (none,(Tm.infer S2 x.1).1,(Tm.infer S2 x.1).2) else Tm.J7 (X.map Qf) (Tm.Za (X.map Qf) roots f) (D.map Qf) p (Ms.map Prod.fst) x0.1 ((Tm.Zp (X.map Qf) p).drop (j+1)) (Tm.infer S2 x.1).2 (rs++[(Tm.infer S2 x.1).1]) (sk++[(p,pl,(Tm.infer S2 x.1).1)]):=HQ3.out.1;have hgi:=Hv HQ0.out.2.2.2.1.len HQ0.out.2.2.2.2.1.ok x.1 hxo.pq hxo.pp;have ki2:∀ W,Qm F wS W→∀ Fr',St lo w0 W (Z5 g V2 M2 S2++Fr')→Calls prog 97 #[.pointer (some ⟨g,0,none⟩),.agg #[.string ⟨x.1.q.path.toArray⟩,.slice Av nv cv,.string ⟨x.1.path.toArray⟩,.int .i64 x.1.place,.int .i64 (x.1.number:Int)]] W fun e w'=>∃ V' M',V2.Same V'∧Gg M' (Tm.infer S2 x.1).2∧e=.returned (.int .i64 ((Tm.infer S2 x.1).1:Int))∧St lo w0 w' (Z5 g V' M' (Tm.infer S2 x.1).2++Fr'):=fun W hW Fr' hS'=>by have:=N0 x F g V2 M2 S2 hS' HQ0.out.2.2.2.1 hxo.ok (hxo.set.keep hW);unfold M9 at this;rw[ev] at this;exact this
             obtain⟨⟨ri,S3⟩,hri⟩:∃ r,Tm.infer S2 x.1=r:=⟨_,rfl⟩;rw[hri] at ki2 hq hgi;dsimp only at hq hgi ki2;have HK2:=Kd ki2;have HG:=Kd2 hq hgi;clear kl7 ki2 hq hgi hri hxo ev;generalize x.1.q.path=xp at kl8 HK2;generalize x.1.path=xq at kl8 HK2;generalize x.1.place=xl at kl8 HK2;generalize x.1.number=xn at kl8 HK2;go_wp2_with fail;refine kl8.mono ?_;rintro e w8 ⟨z8,rfl⟩;clear q0 q1 q2 q3 q4 q5 q6 q7 q8 q9 kl8;have y8:=(Y7.out.under z8).alloc 182 #[.string ⟨xp.toArray⟩,.slice Av nv cv,.string ⟨xq.toArray⟩,.int .i64 xl,.int .i64 (xn:Int)];obtain⟨g10,hg10⟩:∃ q,w8.heap.size=q:=⟨_,rfl⟩;obtain⟨WT,hWT⟩:∃ W,w8.alloc (.cells #[.string ⟨xp.toArray⟩,.slice Av nv cv,.string ⟨xq.toArray⟩,.int .i64 xl,.int .i64 (xn:Int)] 182)=W:=⟨_,rfl⟩;rw[hWT] at y8;rw[hg10] at y8;have n0:=y8.blk.cell 0;have n1:=y8.blk.cell 1;have n2:=y8.blk.cell 2;have n3:=y8.blk.cell 3;have n4:=y8.blk.cell 4;have ki3:=HK2.out WT (HC.out.2.1 _ _ (y8.pick [12] (by decide) (by simp[Z5]))) _ (show St lo w0 WT (Z5 g V2 M2 S2++[Ja 1 (.slice rA rs.length rc) rs.length (Q8 rs),Ja 3 (.slice kA ns kc) ns sks,Xl A (Ms.flatMap Hn),V8 V.dec D,Xy V.cho (D.map Zg),Qh 49 1 V2.skp k vs,R,Qa g9 175 #[.int .i64 pl,.string ⟨p.toArray⟩,.int .i64 cj,.int .i64 ci,.int .i64 ct,.slice cA cn cc,.string ⟨car.toArray⟩,.string ⟨cif.toArray⟩,.string ⟨cce.toArray⟩,.bool cy]]) from y8.pick [1,2,3,4,5,6,7,8,9,10,11,12,14] (by decide) (by simp[Z5]));clear y8 z8 Y7 HK2;go_wp2_with fail;refine ki3.mono ?_;rintro e w9 ⟨V3,M3,hv3,hs3,rfl,y9⟩;have yt:St lo w0 w9 (Z5 g V3 M3 S3++[Ja 1 (.slice rA rs.length rc) rs.length (Q8 rs),Ja 3 (.slice kA ns kc) ns sks,Xl A (Ms.flatMap Hn),V8 V.dec D,Xy V.cho (D.map Zg),Qh 49 1 V3.skp k vs,R,Qa g9 175 #[.int .i64 pl,.string ⟨p.toArray⟩,.int .i64 cj,.int .i64 ci,.int .i64 ct,.slice cA cn cc,.string ⟨car.toArray⟩,.string ⟨cif.toArray⟩,.string ⟨cce.toArray⟩,.bool cy]]) :=(by rw[hv3.skp];exact y9);have Yt:=Kd yt;have HGR:=Kd HG.out.2.1.le;have HT:=Kd5 (HQ0.out.2.2.1.trans hv3.back) hs3 (HQ0.out.2.2.2.2.1.trans HG.out.2.1) HG.out.2.2 HG.out.1;clear ki3 n0 n1 n2 n3 n4 hv3 hs3 y9 yt hg10 hWT;have ht:=HT.out;obtain⟨db,Ar,nr,cr,hdA,hdb,dr,tr⟩:=Yt.out.frameIn.derAt ht.2.1 ht.2.2.2.1;have c4:w9.cell? ⟨g,4,none⟩=some (.slice (some ⟨db,0,none⟩) S3.der.length V3.dC) :=(by have:=Yt.out.cell4 ht.2.1;rw[hdA] at this;exact this);have kcn:=Vq (S3.der.getD ri []) _ _ p w9 tr;obtain⟨I3,hI3⟩:∃ n,S3.der.length=n:=⟨_,rfl⟩;rw[hI3] at c4;have i4:(0:Int)≤(ri:Int):=Int.natCast_nonneg _;have i5:(ri:Int)<(I3:Int):=Int.ofNat_lt.2 (hI3▸ht.2.2.2.1);obtain⟨cn,hcn⟩:∃ b,Tm.Qn (S3.der.getD ri []) p=b:=⟨_,rfl⟩;rw[hcn] at kcn;have HN3:=Kd2 hcn hI3;clear ht tr hdA hdb hcn hI3;go_wp2_with fail;refine kcn.mono ?_;rintro e w10 ⟨rfl,z10⟩;have y10:=Yt.out.under z10;have Y10:=Kd y10;clear kcn z10 c4 dr i4 i5 Yt
             cases cn with
             |false =>clear y10;go_wp2;go_ret2;obtain⟨hb3,ho3,hg3,hr3,hq3⟩:=HT.out;rw[if_pos HN3.out.1] at hq3;subst hq3;exact⟨V3,M3,rfl,hb3,ho3,hg3,.inr hr3,by rw[Gm hb3];exact Y10.out.pick [0,1,2,3,4,8,9,10,11] (by decide) (by simp[Z5])⟩
             | true=>
               have y11:=y10.alloc 3 #[.int .i64 (ri:Int)];have hrd11:=y11.blkRd;have Y11:=Kd (y11.pick [6,0,1,2,3,4,5,7,8,9,10,11,12,13] (by decide) (by simp[Z5]));have HRD:=Kd hrd11;have hb1:rs.length+1≤maxLen :=(by have:=HQ0.out.2.1;have:=HNm.out;have:=HQ0.out.2.2.2.2.2.2.2.2.1;unfold maxLen;omega);have hb2:(rs.length+1)*8≤140737488355328 :=(by have:=HQ0.out.2.1;have:=HNm.out;have:=HQ0.out.2.2.2.2.2.2.2.2.1;omega);have hb3:ns+1≤maxLen :=(by have:=HQ0.out.1;have:=HNm.out;have:=HQ0.out.2.2.2.2.2.2.2.2.1;unfold maxLen;omega);have hb4:(ns+1)*32≤140737488355328 :=(by have:=HQ0.out.1;have:=HNm.out;have:=HQ0.out.2.2.2.2.2.2.2.2.1;omega);have hone:∀ u∈([.string ⟨p.toArray⟩,.int .i64 pl,.int .i64 (ri:Int)]:List Value),u.oneCell'=true:=fun u hu=>by simp at hu;rcases hu with rfl|rfl|rfl<;>rfl
               have HBB:=Kd3 hb3 hb4 hone;clear y10 y11 hrd11 hb3 hb4 hone
               go_wp2_with (at_builtin;first
                | (refine Jw 54 Y11.out underlying54 Wg rfl HRD.out rfl (by decide) (fun u hu=>by rw[List.mem_singleton.1 hu];rfl) hb1 hb2 rfl _ _ rfl rfl rfl ?_
                   intro A11 c11 w11 h11;have q0:=(h11.pick [13] (by decide) (by simp[Z5])).blk.cell 0;have y12:=h11.alloc 156 #[.string ⟨p.toArray⟩,.int .i64 pl,.int .i64 (ri:Int)];have HRD2:=Kd y12.blkRd;have Y12:=Kd (y12.pick [8,0,1,2,3,4,5,6,7,9,10,11,12,13,14] (by decide) (by simp[Z5]))
                   clear y12 h11 HRD Y11)
                | (refine Jw 49 Y12.out underlying49 Df rfl HRD2.out rfl (by decide) HBB.out.2.2 HBB.out.1 HBB.out.2.1 rfl _ _ rfl rfl rfl ?_
                   intro A12 c12 w12 h12))
               have H12:=Kd h12;clear h12 HRD2 Y12 q0 hb1 hb2;go_wp2
               go_roundw
               case rel=>
                obtain⟨hns,hrs,hbk,hso,hgr,hrr,hsl,hso1,hjN,hskl⟩:=HQ0.out;obtain⟨hb3,ho3,hg3,hr3,hq3⟩:=HT.out;rw[if_neg (by rw[HN3.out.1];exact Bool.true_eq_false.mp)] at hq3;refine⟨j+1,ns+1,V3,M3,S3,A11,c11,rs++[ri],A12,c12,sks++[.string ⟨p.toArray⟩,.int .i64 pl,.int .i64 (ri:Int)],Nat.succ_le_of_lt hjN,by go_num,by rw[List.length_append];rfl,rfl,Kd ⟨by omega,by rw[List.length_append,List.length_singleton];omega,hb3,ho3,hg3,fun x hx=>?_,?_,fun u hu=>?_,sk++[(p,pl,ri)],?_,hq3⟩,Kd ?_⟩
                ·rcases List.mem_append.1 hx with hx|hx
                 ·exact(fun x hx=>Nat.lt_of_lt_of_le (hrr x hx) HGR.out) x hx
                 ·rw[List.mem_singleton.1 hx]
                  exact hr3
                ·rw[List.length_append,hsl,Nat.succ_mul]
                 rfl
                ·rcases List.mem_append.1 hu with hu|hu
                 ·exact hso1 u hu
                 ·exact HBB.out.2.2 u hu
                ·rw[List.length_append,hskl]
                 rfl
                ·rw[List.length_append,Wt]
                 exact H12.out.pick [4,5,6,7,8,2,0,9,10,11,12,13] (by decide) (by simp[Z5])
               case measure=>have:=HQ0.out.2.2.2.2.2.2.2.2.1;simp[intOf];omega
           | none=>
             have kl8:Calls prog 99 #[.pointer (some ⟨g,0,none⟩),.agg #[.int .i64 pl,.string ⟨p.toArray⟩,.int .i64 cj,.int .i64 ci,.int .i64 ct,.slice cA cn cc,.string ⟨car.toArray⟩,.string ⟨cif.toArray⟩,.string ⟨cce.toArray⟩,.bool cy]] w7 fun e w'=>Below w7.heap.size w7 w'∧e=.returned (.tuple #[.agg #[.string ⟨#[]⟩,.slice none 0 0,.string ⟨#[]⟩,.int .i64 0,.int .i64 0],.bool false]):=kl7;clear kl7;go_wp2_with fail;refine kl8.mono ?_;rintro e w8 ⟨z8,rfl⟩;clear q0 q1 q2 q3 q4 q5 q6 q7 q8 q9 kl8;have yt:=Y7.out.under z8;obtain⟨dA,dC,hdec,dc1,dc2,-⟩:=(yt.pick [8] (by decide) (by simp[Z5])).can;rw[←HQ3.out.2.2.1] at hdec dc1;have Yt:=Kd yt;have HDE:=Kd3 hdec dc1 dc2;clear yt z8 Y7 hdec dc1 dc2;go_wp2_with fail;have yt:=(Yt.out.alloc 182 #[.string ⟨#[]⟩,.slice none 0 0,.string ⟨#[]⟩,.int .i64 0,.int .i64 0]).tail;generalize w8.alloc (.cells #[.string ⟨#[]⟩,.slice none 0 0,.string ⟨#[]⟩,.int .i64 0,.int .i64 0] 182)=WT at yt ⊢;obtain⟨hdec,dc1,dc2⟩:=HDE.out;have c7:WT.cell? ⟨g,7,none⟩=some (.slice dA dnn dC) :=(by have:=(St.srCell yt 7).1;have e:(Q5 V2 S2)[7]?=some V2.dec:=rfl;rw[e,HQ0.out.2.2.1.dec,hdec] at this;exact this);have c8:WT.cell? ⟨g,8,none⟩=some (.slice sA dnn sC) :=(by have:=(St.srCell yt 8).1;have e:(Q5 V2 S2)[8]?=some V2.cho:=rfl;rw[e,HQ2.out.2.2.2.2] at this;exact this);have y9:St lo w0 WT ([Qa g9 175 #[.int .i64 pl,.string ⟨p.toArray⟩,.int .i64 cj,.int .i64 ci,.int .i64 ct,.slice cA cn cc,.string ⟨car.toArray⟩,.string ⟨cif.toArray⟩,.string ⟨cce.toArray⟩,.bool cy],Qa g 121 (Q5 V2 S2)]++[Zw 152 V2.km S2.infs.length M2,Qh 152 6 (.slice V2.iA S2.infs.length V2.iC) S2.infs.length (S2.infs.flatMap Xj),Qh 192 1 (.slice V2.dA S2.infs.length V2.dC) S2.infs.length V2.dvs,Yy V2.dvs S2.der,Ja 1 (.slice rA rs.length rc) rs.length (Q8 rs),Ja 3 (.slice kA ns kc) ns sks,Xl A (Ms.flatMap Hn),V8 V.dec D,Xy V.cho (D.map Zg),Qh 49 1 V2.skp k vs,R,Xy (.slice sA6 (dnn+1) sC6) ((D++[cd]).map Zg)]):=yt.pick [13,0,1,2,3,4,5,6,7,8,9,10,11,12] (by decide) (by simp[Z5]);obtain⟨Fr2,hFr2⟩:∃ L,([Zw 152 V2.km S2.infs.length M2,Qh 152 6 (.slice V2.iA S2.infs.length V2.iC) S2.infs.length (S2.infs.flatMap Xj),Qh 192 1 (.slice V2.dA S2.infs.length V2.dC) S2.infs.length V2.dvs,Yy V2.dvs S2.der,Ja 1 (.slice rA rs.length rc) rs.length (Q8 rs),Ja 3 (.slice kA ns kc) ns sks,Xl A (Ms.flatMap Hn),V8 V.dec D,Xy V.cho (D.map Zg),Qh 49 1 V2.skp k vs,R,Xy (.slice sA6 (dnn+1) sC6) ((D++[cd]).map Zg)]:List Q3)=L:=⟨_,rfl⟩;rw[hFr2] at y9;have y9:St lo w0 WT [Qa g9 175 #[.int .i64 pl,.string ⟨p.toArray⟩,.int .i64 cj,.int .i64 ci,.int .i64 ct,.slice cA cn cc,.string ⟨car.toArray⟩,.string ⟨cif.toArray⟩,.string ⟨cce.toArray⟩,.bool cy],Qa g 121 (Q5 V2 S2),Zm Fr2]:=y9.frameIn;have HFr2:=Kd hFr2
             have kc2:∀(W:World) (Rs:List Q3),St lo w0 W Rs→St lo w0 W [Zm Fr2]→Calls prog 100 #[.slice dA dnn dC] W fun e w'=>∃ A' c',e=.returned (.slice A' dnn c')∧St lo w0 w' (Ja 10 (.slice A' dnn c') dnn (D.flatMap Gf)::Rs):=fun W Rs hW hG=>by
              have hu:=St.ungroup (Rs:=[]) hG;rw[List.append_nil,←HFr2.out] at hu;obtain⟨sA',sC',e,-,-,hrd⟩:=(hu.pk [7]).can;rw[hdec,←HQ3.out.2.2.1] at e;obtain⟨rfl,-,rfl⟩:=Value.slice.inj e
              refine(N8 dA dnn dC _ _ W hrd (caC_one (fun r hr=>by
               obtain⟨A,c,M,-,e,-⟩:=HC.out.1.rq r (HD.out.2.2.2.2.2.1 r hr)
               exact⟨A,_,c,e⟩)) (by rw[Ge,HQ3.out.2.2.1]) (by omega)).mono ?_
              rintro e w' ⟨A',c',rfl,y⟩;exact⟨A',c',rfl,(hW.graft y).toQu⟩
             have f0:∀ W',St lo w0 W' [Qa g9 175 #[.int .i64 pl,.string ⟨p.toArray⟩,.int .i64 cj,.int .i64 ci,.int .i64 ct,.slice cA cn cc,.string ⟨car.toArray⟩,.string ⟨cif.toArray⟩,.string ⟨cce.toArray⟩,.bool cy]]→W'.cell? ⟨g9,0,none⟩=some (.int .i64 pl)∧W'.cell? ⟨g9,1,none⟩=some (.string ⟨p.toArray⟩)∧W'.cell? ⟨g9,2,none⟩=some (.int .i64 cj)∧W'.cell? ⟨g9,3,none⟩=some (.int .i64 ci)∧W'.cell? ⟨g9,4,none⟩=some (.int .i64 ct)∧W'.cell? ⟨g9,5,none⟩=some (.slice cA cn cc)∧W'.cell? ⟨g9,6,none⟩=some (.string ⟨car.toArray⟩)∧W'.cell? ⟨g9,7,none⟩=some (.string ⟨cif.toArray⟩)∧W'.cell? ⟨g9,8,none⟩=some (.string ⟨cce.toArray⟩)∧W'.cell? ⟨g9,9,none⟩=some (.bool cy):=fun W' hW=>by have hb:=hW.blk;exact⟨hb.cell 0,hb.cell 1,hb.cell 2,hb.cell 3,hb.cell 4,hb.cell 5,hb.cell 6,hb.cell 7,hb.cell 8,hb.cell 9⟩
             have hone:∀ u∈([.int .i64 pl,.string ⟨p.toArray⟩,.int .i64 cj,.int .i64 ci,.int .i64 ct,.slice cA cn cc,.string ⟨car.toArray⟩,.string ⟨cif.toArray⟩,.string ⟨cce.toArray⟩,.bool cy]:List Value),u.oneCell'=true:=fun u hu=>by simp at hu;rcases hu with rfl|rfl|rfl|rfl|rfl|rfl|rfl|rfl|rfl|rfl<;>rfl
             have ha1:dnn+1≤maxLen :=(by unfold maxLen;omega);have ha2:(dnn+1)*128≤140737488355328 :=(by omega);have HA:=Kd3 hone ha1 ha2;have F0:=Kd f0;have KC:=Kd kc2;have Y1:=Kd y9.drew;clear Yt yt y9 hdec dc1 dc2 hFr2 kc2 f0 hone ha1 ha2;refine wp_region_noPanic ?_;refine wp_region_held_drew (S:=(fun W'=>W'.cell? ⟨g,7,none⟩=some (.slice dA dnn dC)∧W'.cell? ⟨g,8,none⟩=some (.slice sA dnn sC))) (by kernel_rfl) ?_ (fun hH0=>?_)
             ·exact⟨c7,c8⟩
             refine tk 0 90 hH0 ?_;refine tk 1 91 hH0 ?_;refine tk 2 92 hH0 ?_;refine tk 3 93 hH0 ?_;refine tk 4 94 hH0 ?_;refine tk 5 95 hH0 ?_;refine tk 6 96 hH0 ?_;refine tk 7 97 hH0 ?_;refine tk 8 16 hH0 ?_;refine tk 9 17 hH0 ?_;refine dn ?_ _
             all_goals(refine NoPanic.normal ?_)
             have y9:=Y1.out;generalize WT.drew=WU at y9 ⊢;have Y1:=Kd y9;clear y9 c7 c8;go_wp2_with fail;apply Sn (fun (pG:Nat) (A2:Option Addr) (c2:Nat) (A6:Option Addr) (c6:Nat) w'=>St lo w0 w' [Ja 10 (.slice A6 (dnn+1) c6) (dnn+1) (D.flatMap Gf++[.int .i64 pl,.string ⟨p.toArray⟩,.int .i64 cj,.int .i64 ci,.int .i64 ct,.slice cA cn cc,.string ⟨car.toArray⟩,.string ⟨cif.toArray⟩,.string ⟨cce.toArray⟩,.bool cy]),Qa g9 175 #[.int .i64 pl,.string ⟨p.toArray⟩,.int .i64 cj,.int .i64 ci,.int .i64 ct,.slice cA cn cc,.string ⟨car.toArray⟩,.string ⟨cif.toArray⟩,.string ⟨cce.toArray⟩,.bool cy],Qa g 121 (Q5 { V2 with dec:=.slice A6 (dnn+1) c6,cho:=.slice sA6 (dnn+1) sC6 } S2),Zm Fr2])
             case h=>
              have hone:=HA.out.1;have ha1:=HA.out.2.1;have ha2:=HA.out.2.2;refine wp_region_noPanic ?_;refine wp_region_held_drew (S:=(fun W'=>W'.cell? ⟨g9,0,none⟩=some (.int .i64 pl)∧W'.cell? ⟨g9,1,none⟩=some (.string ⟨p.toArray⟩)∧W'.cell? ⟨g9,2,none⟩=some (.int .i64 cj)∧W'.cell? ⟨g9,3,none⟩=some (.int .i64 ci)∧W'.cell? ⟨g9,4,none⟩=some (.int .i64 ct)∧W'.cell? ⟨g9,5,none⟩=some (.slice cA cn cc)∧W'.cell? ⟨g9,6,none⟩=some (.string ⟨car.toArray⟩)∧W'.cell? ⟨g9,7,none⟩=some (.string ⟨cif.toArray⟩)∧W'.cell? ⟨g9,8,none⟩=some (.string ⟨cce.toArray⟩)∧W'.cell? ⟨g9,9,none⟩=some (.bool cy))) (by kernel_rfl) ?_ (fun hH0=>?_)
              ·exact F0.out _ (Y1.out.drew.pk [0])
              refine tk 0 98 hH0 ?_;refine tk 1 99 hH0 ?_;refine tk 2 100 hH0 ?_;refine tk 4 102 hH0 ?_;refine tk 7 105 hH0 ?_;refine Zk [3,5] ?_;refine ad 101 (fun K hK=>?_) ?_
              go_simp;(
               have yG:St lo w0 _ [Zm Fr2]:=(Y1.out.drew.pk [2]);with_reducible refine(KC.out _ _ Y1.out.drew yG).mono ?_
               rintro e w2 ⟨A2,c2,rfl,y2⟩);go_wp2_with fail
              refine hK.out _ _ ?_ (fun hH1=>?_)
              ·exact F0.out _ (y2.tail.pk [0])
              clear hK K hH0
              try simp only[pu]
              refine Zk [5] ?_;refine an 103 fun K hK=>?_;go_simp;refine hK.out _ _ ?_ (fun hH2=>?_)
              ·exact F0.out _ ((y2.alloc 175 #[.int .i64 pl,.string ⟨p.toArray⟩,.int .i64 cj,.int .i64 ci,.int .i64 ct,.slice cA cn cc,.string ⟨car.toArray⟩,.string ⟨cif.toArray⟩,.string ⟨cce.toArray⟩,.bool cy]).tail.tail.pk [0])
              clear hK K hH1
              try simp only[pu]
              refine Zk [6] ?_;refine an 104 fun K hK=>?_
              (
               refine Ut 118 ((y2.alloc 175 #[.int .i64 pl,.string ⟨p.toArray⟩,.int .i64 cj,.int .i64 ci,.int .i64 ct,.slice cA cn cc,.string ⟨car.toArray⟩,.string ⟨cif.toArray⟩,.string ⟨cce.toArray⟩,.bool cy]).pk [1,2,3,4,0]) underlying118 Ku rfl (y2.alloc 175 #[.int .i64 pl,.string ⟨p.toArray⟩,.int .i64 cj,.int .i64 ci,.int .i64 ct,.slice cA cn cc,.string ⟨car.toArray⟩,.string ⟨cif.toArray⟩,.string ⟨cce.toArray⟩,.bool cy]).blkRd (by rfl) (by decide) hone ha1 ha2 _ _ (by rfl) (by rfl) (by rfl) (by rfl) ?_;intro A6 c6 w6 y6';have y6:=y6'.pk [0,1,2,3];have e7:_=some _:=(y6.pk [2]).blk.cell 7;have e8:_=some _:=(y6.pk [2]).blk.cell 8;have f7:=(y6.pk [2]).blk.frozen 7
               have f8:=(y6.pk [2]).blk.frozen 8)
              refine hK.out _ _ ?_ (fun hH3=>?_)
              ·exact F0.out _ (y6.tail.pk [0])
              clear hK K hH2
              try simp only[pu]
              refine tk 8 106 hH3 ?_;refine tk 9 107 hH3 ?_;refine Zk [10] ?_;refine az fun K hK=>?_;go_simp;refine hK.out _ _ ?_ (fun hH4=>?_)
              ·exact F0.out _ ((y6.pk [2,1]).set_ 7 (.slice A6 (dnn+1) c6)).tail
              clear hK K hH3
              try simp only[pu]
              refine tk 11 108 hH4 ?_;refine tk 12 109 hH4 ?_;refine Zk [13] ?_;refine az fun K hK=>?_;go_simp;refine hK.out _ _ ?_ (fun hH5=>?_)
              ·exact F0.out _ (((y6.pk [2,1]).set_ 7 (.slice A6 (dnn+1) c6)).set_ 8 (.slice sA6 (dnn+1) sC6)).tail
              clear hK K hH4
              try simp only[pu]
              refine dn ?_ _;rotate_left 1;refine an 103 fun K hK=>?_;go_simp;refine hK.out _ _ ?_ (fun hH6=>?_)
              ·exact F0.out _ ((Y1.out.alloc 175 #[.int .i64 pl,.string ⟨p.toArray⟩,.int .i64 cj,.int .i64 ci,.int .i64 ct,.slice cA cn cc,.string ⟨car.toArray⟩,.string ⟨cif.toArray⟩,.string ⟨cce.toArray⟩,.bool cy]).drew.pk [1])
              clear hK K hH0
              try simp only[pu]
              refine Zk [3] ?_;refine an 101 fun K hK=>?_
              go_simp;(
               have yG:St lo w0 _ [Zm Fr2]:=((Y1.out.alloc 175 #[.int .i64 pl,.string ⟨p.toArray⟩,.int .i64 cj,.int .i64 ci,.int .i64 ct,.slice cA cn cc,.string ⟨car.toArray⟩,.string ⟨cif.toArray⟩,.string ⟨cce.toArray⟩,.bool cy]).drew.pk [3]);with_reducible refine(KC.out _ _ (Y1.out.alloc 175 #[.int .i64 pl,.string ⟨p.toArray⟩,.int .i64 cj,.int .i64 ci,.int .i64 ct,.slice cA cn cc,.string ⟨car.toArray⟩,.string ⟨cif.toArray⟩,.string ⟨cce.toArray⟩,.bool cy]).drew yG).mono ?_
               rintro e w2 ⟨A2,c2,rfl,y2⟩);go_wp2_with fail
              refine hK.out _ _ ?_ (fun hH7=>?_)
              ·exact F0.out _ (y2.tail.tail.pk [0])
              clear hK K hH6
              try simp only[pu]
              refine Zk [6] ?_;refine an 104 fun K hK=>?_
              (
               refine Ut 118 (y2.pk [0,2,3,4,1]) underlying118 Ku rfl y2.tail.blkRd (by rfl) (by decide) hone ha1 ha2 _ _ (by rfl) (by rfl) (by rfl) (by rfl) ?_;intro A6 c6 w6 y6';have y6:=y6'.pk [0,1,2,3];have e7:_=some _:=(y6.pk [2]).blk.cell 7;have e8:_=some _:=(y6.pk [2]).blk.cell 8;have f7:=(y6.pk [2]).blk.frozen 7
               have f8:=(y6.pk [2]).blk.frozen 8)
              refine hK.out _ _ ?_ (fun hH8=>?_)
              ·exact F0.out _ (y6.tail.pk [0])
              clear hK K hH7
              try simp only[pu]
              refine tk 8 106 hH8 ?_;refine tk 9 107 hH8 ?_;refine Zk [10] ?_;refine az fun K hK=>?_;go_simp;refine hK.out _ _ ?_ (fun hH9=>?_)
              ·exact F0.out _ ((y6.pk [2,1]).set_ 7 (.slice A6 (dnn+1) c6)).tail
              clear hK K hH8
              try simp only[pu]
              refine tk 11 108 hH9 ?_;refine tk 12 109 hH9 ?_;refine Zk [13] ?_;refine az fun K hK=>?_;go_simp;refine hK.out _ _ ?_ (fun hH10=>?_)
              ·exact F0.out _ (((y6.pk [2,1]).set_ 7 (.slice A6 (dnn+1) c6)).set_ 8 (.slice sA6 (dnn+1) sC6)).tail
              clear hK K hH9
              try simp only[pu]
              refine dn ?_ _
              all_goals(refine NoPanic.normal ?_)
              all_goals
               have yF:=(((y6.pk [2,0,1,3]).set_ 7 (.slice A6 (dnn+1) c6)).set_ 8 (.slice sA6 (dnn+1) sC6)).pk [1,2,0,3];have yG:=yF.drew;rw[Sc] at yF yG
               first
                | (obtain⟨pG,hpG⟩:∃ q,WU.heap.size=q:=⟨_,rfl⟩
                   try rw[hpG]
                   exact⟨rfl,pG,A2,c2,A6,c6,rfl,yF⟩)
                | (obtain⟨pG,hpG⟩:∃ q,w2.heap.size=q:=⟨_,rfl⟩
                   try rw[hpG]
                   exact⟨rfl,pG,A2,c2,A6,c6,rfl,yF⟩)
                | (obtain⟨pG,hpG⟩:∃ q,WU.heap.size=q:=⟨_,rfl⟩
                   try rw[hpG]
                   exact⟨rfl,pG,A2,c2,A6,c6,rfl,yG⟩)
                | (obtain⟨pG,hpG⟩:∃ q,w2.heap.size=q:=⟨_,rfl⟩
                   try rw[hpG]
                   exact⟨rfl,pG,A2,c2,A6,c6,rfl,yG⟩)
             case k =>
              rintro pG2 dA2 dc2 dA6 dC6 w9 y9;have hDX2:=HQ3.out.2.2.2;have hdrow:D.flatMap Gf++[.int .i64 pl,.string ⟨p.toArray⟩,.int .i64 cj,.int .i64 ci,.int .i64 ct,.slice cA cn cc,.string ⟨car.toArray⟩,.string ⟨cif.toArray⟩,.string ⟨cce.toArray⟩,.bool cy]=(D++[cd]).flatMap Gf :=(by rw[List.flatMap_append,List.flatMap_cons,List.flatMap_nil,List.append_nil,HCA.out.1]);rw[hdrow] at y9;have y10:=y9.quCan (by rw[List.length_append,HQ3.out.2.2.1];rfl);have y11:=St.ungroup (Ps:=Fr2) (Rs:=[Qa g 121 (Q5 { V2 with dec:=.slice dA6 (dnn+1) dC6,cho:=.slice sA6 (dnn+1) sC6 } S2),V8 (.slice dA6 (dnn+1) dC6) (D++[cd]),Qa g9 175 #[.int .i64 pl,.string ⟨p.toArray⟩,.int .i64 cj,.int .i64 ci,.int .i64 ct,.slice cA cn cc,.string ⟨car.toArray⟩,.string ⟨cif.toArray⟩,.string ⟨cce.toArray⟩,.bool cy]]) (y10.pk [3,2,0,1]);rw[←HFr2.out] at y11;obtain⟨kA2,kc2,hskp,-,-⟩:=Q4 ((y11.pk [9]).own);have hvl:vs.length=k :=(by have:=((y11.pk [9]).own).1;rw[this,Nat.mul_one]);have y12:=y11.pk [9,12,0,1,2,3,4,5,6,7,8,10,11,13,14];have e9:w9.cell? ⟨g,9,none⟩=some (.slice kA2 k kc2) :=(by have:=(y11.pk [12]).blk.cell 9;have e:(Q5 { V2 with dec:=.slice dA6 (dnn+1) dC6,cho:=.slice sA6 (dnn+1) sC6 } S2)[9]?=some V2.skp:=rfl;rw[e,hskp] at this;exact this);rw[hskp] at y12;have gl:g<w9.heap.size:=(y11.pk [12]).blk.lt;have hkb:=HD.out.2.2.2.2.2.2.2.2;have hb5:k+1≤maxLen :=(by unfold maxLen;omega);have hb6:(k+1)*24≤140737488355328 :=(by omega);have Y12:=Kd y12;have HVL:=Kd2 hvl hskp;clear hdrow y9 y10 y11 y12 hvl hskp hkb hDX2 HFr2 HA KC F0;go_wp2_with (at_builtin;go_must (refine Vr 119 Y12.out underlying119 info_skr rfl rfl _ _ rfl rfl rfl rfl hb5 hb6 ?_);intro v13 w13 h13;obtain⟨A13,c13,rfl,-,-⟩:=Q4 h13.own;have e9:_=some _:=(h13.pk [1]).blk.cell 9;have f9:=(h13.pk [1]).blk.frozen 9);have y14:=h13.swap.set_ 9 (.slice A13 (k+1) c13);rw[Lu] at y14;have y15:St lo w0 (w13.setCell ⟨g,9,none⟩ (.slice A13 (k+1) c13)) ((Z5 g { V2 with dec:=.slice dA6 (dnn+1) dC6,cho:=.slice sA6 (dnn+1) sC6,skp:=.slice A13 (k+1) c13 } M2 S2++[V8 (.slice dA6 (dnn+1) dC6) (D++[cd]),Xy (.slice sA6 (dnn+1) sC6) ((D++[cd]).map Zg),Qh 49 1 (.slice A13 (k+1) c13) (k+1) (vs++[.slice kA ns kc])])++[Ja 1 (.slice rA rs.length rc) rs.length (Q8 rs),Ja 3 (.slice kA ns kc) ns sks,Xl A (Ms.flatMap Hn),V8 V.dec D,Xy V.cho (D.map Zg),R,Qa g9 175 #[.int .i64 pl,.string ⟨p.toArray⟩,.int .i64 cj,.int .i64 ci,.int .i64 ct,.slice cA cn cc,.string ⟨car.toArray⟩,.string ⟨cif.toArray⟩,.string ⟨cce.toArray⟩,.bool cy]]):=y14.pk [0,2,3,4,5,13,12,1,6,7,8,9,10,11,14];have y15:=y15.frameIn;obtain⟨V3,hV3⟩:∃ V:Kc,({ V2 with dec:=.slice dA6 (dnn+1) dC6,cho:=.slice sA6 (dnn+1) sC6,skp:=.slice A13 (k+1) c13 }:Kc)=V:=⟨_,rfl⟩;obtain⟨GL,hGL⟩:∃ L,([Ja 1 (.slice rA rs.length rc) rs.length (Q8 rs),Ja 3 (.slice kA ns kc) ns sks,Xl A (Ms.flatMap Hn),V8 V.dec D,Xy V.cho (D.map Zg),R,Qa g9 175 #[.int .i64 pl,.string ⟨p.toArray⟩,.int .i64 cj,.int .i64 ci,.int .i64 ct,.slice cA cn cc,.string ⟨car.toArray⟩,.string ⟨cif.toArray⟩,.string ⟨cce.toArray⟩,.bool cy]]:List Q3)=L:=⟨_,rfl⟩;have hmr:(D++[cd]).map Qf=D.map Qf++[tc]:=by rw[List.map_append,List.map_singleton,HTC.out]
              have hop:Tm.Xb (X.map Qf) ((D++[cd]).map Qf)<f :=(by have h1:=Tm.Vg (x:=X.map Qf) (dec:=D.map Qf) (c:=tc) (p:=p) (by rw[←HTC.out];exact HCD.out.2.1.1) HN.out.2.2.2.2.2.1;have h2:(Tm.Zp (X.map Qf) p).length=N :=(by rw[←Up,List.length_map,HN.out.1]);have h3:=HD.out.2.2.2.2.2.2.1;have h4:=HQ0.out.2.2.2.2.2.2.2.2.1;rw[hmr];omega);have hbk3:V3.roots=V2.roots∧V3.cm=V2.cm∧V3.am=V2.am∧V3.dec=.slice dA6 (dnn+1) dC6∧V3.cho=.slice sA6 (dnn+1) sC6∧V3.skp=.slice A13 (k+1) c13:=by rw[←hV3];exact⟨rfl,rfl,rfl,rfl,rfl,rfl⟩
              have kr:=HC.out.2.2 _ V3 M2 S2 (D++[cd]) (k+1) (vs++[.slice kA ns kc]) (Zm GL) (by
               unfold O8;rw[←hGL,hbk3.2.2.2.1,hbk3.2.2.2.2.1,hbk3.2.2.2.2.2,←hV3]
               exact y15) (HC.out.2.1.group (by rw[←hGL];exact List.mem_of_getElem? (i:=5) rfl)) HQ0.out.2.2.2.1 HQ0.out.2.2.2.2.1.ok (by rw[hbk3.1,HQ0.out.2.2.1.roots];exact HD.out.2.2.1) (by rw[hbk3.2.1,HQ0.out.2.2.1.cm];exact HD.out.2.2.2.1) (by rw[hbk3.2.2.1,HQ0.out.2.2.1.am];exact HD.out.2.2.2.2.1) HQ3.out.2.2.2 hop (by have:=HD.out.2.2.2.2.2.2.2.1;rw[List.length_append,List.length_singleton];omega) (by have:=HD.out.2.2.2.2.2.2.2.2;omega)
              obtain⟨⟨o,r9,S4⟩,hr9⟩:∃ r,Tm.Za (X.map Qf) roots f S2 ((D++[cd]).map Qf)=r:=⟨_,rfl⟩;rw[hr9] at kr;have hq:=HQ3.out.1;rw[hmr] at hr9;rw[hr9] at hq;have hbk4:V3.roots=V.roots∧V3.cm=V.cm∧V3.am=V.am :=(by rw[hbk3.1,hbk3.2.1,hbk3.2.2.1];exact⟨HQ0.out.2.2.1.roots,HQ0.out.2.2.1.cm,HQ0.out.2.2.1.am⟩);have HB4:=Kd2 hbk4 hGL;clear y14 y15 hV3 hGL hmr hop hbk3 hbk4 hr9 h13 e9 f9 gl hb5 hb6 Y12
              cases o with
              | some dt=>
                obtain⟨d,t⟩:=dt;have hq:res=(some (d,sk++t),0,S4):=hq;subst hq;refine kr.mono ?_;rintro e w16 ⟨V4,M4,D4,us,rfl,hd4,hDX4,hs4,hg4,hsk4,y16⟩;have Y16:=Kd y16;have H16:=Kd5 hd4 hDX4 hs4 hg4 hsk4;clear kr y16 hd4 hDX4 hs4 hg4 hsk4;go_wp2;go_ret2;obtain⟨hns,hrs,hbk,hso,hgr,hrr,hsl,hso1,hjN,hskl⟩:=HQ0.out;obtain⟨hd4,hDX4,hs4,hg4,hsk4⟩:=H16.out;have y17:=St.ungroup (Ps:=GL) (Rs:=Z5 g V4 M4 S4++[Ak us,V8 V4.dec D4,Xy V4.cho (D4.map Zg),Qh 49 1 V4.skp (k+1+us.length) ((vs++[.slice kA ns kc])++us)]) (Y16.out.pick [9,0,1,2,3,4,5,6,7,8] (by decide) (by simp[Z5,O8]));rw[←HB4.out.2] at y17;have y18:=(y17.pick [1,12,7,8,9,10,11,13,14,15,5] (by decide) (by simp[Z5])).quRead hsl;obtain⟨A0,kc0,ek,kc1,kc2⟩:=(y17.pick [1] (by decide) (by simp[Z5])).qu_form;obtain⟨-,-,rfl⟩:=Value.slice.inj ek;have y19:=y18.skpAdd kc1 kc2 (by have:=HNm.out;omega) hsl hso1;refine⟨V4,M4,D4,.slice kA ns kc::us,rfl,hd4,hDX4,hs4,hgr.trans hg4,?_,?_⟩
                ·show ns+skN us=_
                 rw[List.length_append,hskl,hsk4]
                ·rw[show k+(Value.slice kA ns kc::us).length=k+1+us.length by rw[List.length_cons];omega,show vs++Value.slice kA ns kc::us=(vs++[.slice kA ns kc])++us by simp]
                 exact y19.pk [1,2,3,4,5,0,6,7,8,9]
              | none =>
                refine kr.mono ?_;rintro e w16 ⟨V4,M4,rfl,hb4,hs4,hg4,hr4,y16⟩;have hq:res=(if S4.full=true then (none,0,S4) else if Tm.Qn (S4.der.getD r9 []) p=false then (none,r9,S4) else Tm.J7 (X.map Qf) (Tm.Za (X.map Qf) roots f) (D.map Qf) p (Ms.map Prod.fst) x0.1 ((Tm.Zp (X.map Qf) p).drop (j+1)) S4 (rs++[r9]) (sk++[(p,pl,r9)])):=hq;have y17:=St.ungroup (Ps:=GL) (Rs:=Z5 g V4 M4 S4++[V8 V4.dec (D++[cd]),Xy V4.cho ((D++[cd]).map Zg),Qh 49 1 V4.skp (k+1) (vs++[.slice kA ns kc])]) (y16.pick [8,0,1,2,3,4,5,6,7] (by decide) (by simp[Z5,O8]));rw[←HB4.out.2] at y17;have y18:=y17.pick [14,7,8,9,10,11,0,1,2,3,4,5,6] (by decide) (by simp[Z5]);obtain⟨A17,c17,hsk17,hc17,hm17⟩:=Q4 y18.own;rw[hsk17] at y18;have y19:=y18.shrink k (Nat.le_succ k);rw[List.take_append_of_le_length (Nat.le_of_eq HVL.out.1.symm),List.take_of_length_le (Nat.le_of_eq HVL.out.1)] at y19;have yg:=y19.pk [1];have e7:w16.cell? ⟨g,7,none⟩=some V4.dec:=yg.blk.cell 7;have e8:w16.cell? ⟨g,8,none⟩=some V4.cho:=yg.blk.cell 8;have e9:w16.cell? ⟨g,9,none⟩=some (.slice A17 (k+1) c17) :=(by have:w16.cell? ⟨g,9,none⟩=some V4.skp:=yg.blk.cell 9;rw[hsk17] at this;exact this);have e6:w16.cell? ⟨g,6,none⟩=some (.bool S4.full):=yg.blk.cell 6;have f7:=yg.blk.frozen 7;have f8:=yg.blk.frozen 8;have f9:=yg.blk.frozen 9;have gl:=yg.blk.lt;have Y19:=Kd y19;have HS17:=Kd hsk17;have H16:=Kd6 hb4 hs4 hg4 hr4 hq hc17;clear kr y16 y17 y18 y19 yg hb4 hs4 hg4 hr4 hq hsk17;go_wp2_with fail;clear e7 e8 e9 e6 f7 f8 f9 gl;have y20:=(Y19.out.swap.set_ 7 (.slice dA dnn dC)).set_ 8 (.slice sA dnn sC);rw[Sc] at y20;generalize (w16.setCell ⟨g,7,none⟩ (.slice dA dnn dC)).setCell ⟨g,8,none⟩ (.slice sA dnn sC)=WV at y20 ⊢;have e9:WV.cell? ⟨g,9,none⟩=some (.slice A17 (k+1) c17) :=(by have:WV.cell? ⟨g,9,none⟩=some V4.skp:=y20.blk.cell 9;rw[HS17.out] at this;exact this);have f9:=y20.blk.frozen 9;have gl:=y20.blk.lt;have y21:=y20.set_ 9 (.slice A17 k c17);rw[Lu] at y21;have hk0:(0:Int)≤(k:Int):=Int.natCast_nonneg _;have hk1:(k:Int)≤(c17:Int) :=(by have:=H16.out.2.2.2.2.2;omega);have hk2:k≤c17 :=(by have:=H16.out.2.2.2.2.2;omega);have hk3:k≤1000000 :=(by have:=HD.out.2.2.2.2.2.2.2.2;omega);have hkw:IntKind.i64.wrap (k:Int)=(k:Int) :=(by rw[IntKind.wrap_i64];omega);have Y21:=Kd y21;clear y20 y21 Y19;obtain⟨V5,hV5⟩:∃ V:Kc,({ V4 with dec:=.slice dA dnn dC,cho:=.slice sA dnn sC,skp:=.slice A17 k c17 }:Kc)=V:=⟨_,rfl⟩;have yt:St lo w0 (WV.setCell ⟨g,9,none⟩ (.slice A17 k c17)) (Z5 g V5 M4 S4++[Ja 1 (.slice rA rs.length rc) rs.length (Q8 rs),Ja 3 (.slice kA ns kc) ns sks,Xl A (Ms.flatMap Hn),V8 V.dec D,Xy V.cho (D.map Zg),Qh 49 1 V5.skp k vs,R,Qa g9 175 #[.int .i64 pl,.string ⟨p.toArray⟩,.int .i64 cj,.int .i64 ci,.int .i64 ct,.slice cA cn cc,.string ⟨car.toArray⟩,.string ⟨cif.toArray⟩,.string ⟨cce.toArray⟩,.bool cy]]) :=(by have e5:V5.skp=.slice A17 k c17 :=(by rw[←hV5]);rw[e5,←hV5];exact Y21.out.pk [0,2,3,4,5,6,7,8,9,10,1,11,12]);have hb5:V.Back V5 :=(by rw[←hV5];have h1:=H16.out.1;have h2:=HB4.out.1;exact⟨h1.roots.trans h2.1,h1.cm.trans h2.2.1,h1.am.trans h2.2.2,HDE.out.1.symm,HQ2.out.2.2.2.1.symm⟩);have YT:=Kd yt.drew;have HB5:=Kd hb5;clear yt hb5 hV5 Y21;apply Nu (fun w'=>St lo w0 w' (Z5 g V5 M4 S4++[Ja 1 (.slice rA rs.length rc) rs.length (Q8 rs),Ja 3 (.slice kA ns kc) ns sks,Xl A (Ms.flatMap Hn),V8 V.dec D,Xy V.cho (D.map Zg),Qh 49 1 V5.skp k vs,R,Qa g9 175 #[.int .i64 pl,.string ⟨p.toArray⟩,.int .i64 cj,.int .i64 ci,.int .i64 ct,.slice cA cn cc,.string ⟨car.toArray⟩,.string ⟨cif.toArray⟩,.string ⟨cce.toArray⟩,.bool cy]]))
                case h=>
                 refine wp_region_noPanic ?_
                 go_region_law (fail)
                 all_goals exact⟨rfl,rfl,YT.out⟩
                case k =>
                 rintro WF yF;have e6:WF.cell? ⟨g,6,none⟩=some (.bool S4.full):=(yF.srCell 6).1;obtain⟨hb4,hs4,hg4,hr4,hq,-⟩:=H16.out;obtain⟨fu4,hfu4⟩:∃ b,S4.full=b:=⟨_,rfl⟩;rw[hfu4] at e6;have HF4:=Kd hfu4;have Yt:=Kd yF;clear hb4 hs4 hg4 hr4 hq hfu4 yF YT e9 f9 gl hk0 hk1 hk2 hk3 hkw
                 cases fu4 with
                 |true =>go_wp2;go_ret2;obtain⟨hb4,hs4,hg4,hr4,hq,-⟩:=H16.out;rw[if_pos HF4.out] at hq;subst hq;exact⟨V5,M4,rfl,HB5.out,hs4,HQ0.out.2.2.2.2.1.trans hg4,.inl HF4.out,by rw[Gm HB5.out];exact Yt.out.pick [0,1,2,3,4,8,9,10,11] (by decide) (by simp[Z5])⟩
                 | false =>
                   obtain⟨hb4,hs4,hg4,hr4,hq,-⟩:=H16.out;rw[if_neg (by rw[HF4.out];exact Bool.false_ne_true)] at hq
                   have hr5:r9<S4.der.length:=by
                    rcases hr4 with h|h
                    ·rw[HF4.out] at h
                     cases h
                    ·exact h
                   have HT:=Kd5 HB5.out hs4 (HQ0.out.2.2.2.2.1.trans hg4) hr5 hq;have HGR:=Kd hg4.le;clear hb4 hs4 hg4 hr4 hq hr5;have ht:=HT.out;obtain⟨db,Ar,nr,cr,hdA,hdb,dr,tr⟩:=Yt.out.frameIn.derAt ht.2.1 ht.2.2.2.1;have c4:WF.cell? ⟨g,4,none⟩=some (.slice (some ⟨db,0,none⟩) S4.der.length V5.dC) :=(by have:=Yt.out.cell4 ht.2.1;rw[hdA] at this;exact this);have kcn:=Vq (S4.der.getD r9 []) _ _ p WF tr;obtain⟨I3,hI3⟩:∃ n,S4.der.length=n:=⟨_,rfl⟩;rw[hI3] at c4;have i4:(0:Int)≤(r9:Int):=Int.natCast_nonneg _;have i5:(r9:Int)<(I3:Int):=Int.ofNat_lt.2 (hI3▸ht.2.2.2.1);obtain⟨cn,hcn⟩:∃ b,Tm.Qn (S4.der.getD r9 []) p=b:=⟨_,rfl⟩;rw[hcn] at kcn;have HN3:=Kd2 hcn hI3;clear ht tr hdA hdb hcn hI3;go_wp2_with fail;refine kcn.mono ?_;rintro e w10 ⟨rfl,z10⟩;have y10:=Yt.out.under z10;have Y10:=Kd y10;clear kcn z10 c4 dr i4 i5 Yt
                   cases cn with
                   |false =>clear y10;go_wp2;go_ret2;obtain⟨hb3,ho3,hg3,hr3,hq3⟩:=HT.out;rw[if_pos HN3.out.1] at hq3;subst hq3;exact⟨V5,M4,rfl,hb3,ho3,hg3,.inr hr3,by rw[Gm hb3];exact Y10.out.pick [0,1,2,3,4,8,9,10,11] (by decide) (by simp[Z5])⟩
                   | true=>
                     have y11:=y10.alloc 3 #[.int .i64 (r9:Int)];have hrd11:=y11.blkRd;have Y11:=Kd (y11.pick [6,0,1,2,3,4,5,7,8,9,10,11,12,13] (by decide) (by simp[Z5]));have HRD:=Kd hrd11;have hb1:rs.length+1≤maxLen :=(by have:=HQ0.out.2.1;have:=HNm.out;have:=HQ0.out.2.2.2.2.2.2.2.2.1;unfold maxLen;omega);have hb2:(rs.length+1)*8≤140737488355328 :=(by have:=HQ0.out.2.1;have:=HNm.out;have:=HQ0.out.2.2.2.2.2.2.2.2.1;omega);have hb3:ns+1≤maxLen :=(by have:=HQ0.out.1;have:=HNm.out;have:=HQ0.out.2.2.2.2.2.2.2.2.1;unfold maxLen;omega);have hb4:(ns+1)*32≤140737488355328 :=(by have:=HQ0.out.1;have:=HNm.out;have:=HQ0.out.2.2.2.2.2.2.2.2.1;omega);have hone:∀ u∈([.string ⟨p.toArray⟩,.int .i64 pl,.int .i64 (r9:Int)]:List Value),u.oneCell'=true:=fun u hu=>by simp at hu;rcases hu with rfl|rfl|rfl<;>rfl
                     have HBB:=Kd3 hb3 hb4 hone;clear y10 y11 hrd11 hb3 hb4 hone
                     go_wp2_with (at_builtin;first
                      | (refine Jw 54 Y11.out underlying54 Wg rfl HRD.out rfl (by decide) (fun u hu=>by rw[List.mem_singleton.1 hu];rfl) hb1 hb2 rfl _ _ rfl rfl rfl ?_
                         intro A11 c11 w11 h11;have q0:=(h11.pick [13] (by decide) (by simp[Z5])).blk.cell 0;have y12:=h11.alloc 156 #[.string ⟨p.toArray⟩,.int .i64 pl,.int .i64 (r9:Int)];have HRD2:=Kd y12.blkRd;have Y12:=Kd (y12.pick [8,0,1,2,3,4,5,6,7,9,10,11,12,13,14] (by decide) (by simp[Z5]))
                         clear y12 h11 HRD Y11)
                      | (refine Jw 49 Y12.out underlying49 Df rfl HRD2.out rfl (by decide) HBB.out.2.2 HBB.out.1 HBB.out.2.1 rfl _ _ rfl rfl rfl ?_
                         intro A12 c12 w12 h12))
                     have H12:=Kd h12;clear h12 HRD2 Y12 q0 hb1 hb2;go_wp2
                     go_roundw
                     case rel=>
                      obtain⟨hns,hrs,hbk,hso,hgr,hrr,hsl,hso1,hjN,hskl⟩:=HQ0.out;obtain⟨hb3,ho3,hg3,hr3,hq3⟩:=HT.out;rw[if_neg (by rw[HN3.out.1];exact Bool.true_eq_false.mp)] at hq3;refine⟨j+1,ns+1,V5,M4,S4,A11,c11,rs++[r9],A12,c12,sks++[.string ⟨p.toArray⟩,.int .i64 pl,.int .i64 (r9:Int)],Nat.succ_le_of_lt hjN,by go_num,by rw[List.length_append];rfl,rfl,Kd ⟨by omega,by rw[List.length_append,List.length_singleton];omega,hb3,ho3,hg3,fun x hx=>?_,?_,fun u hu=>?_,sk++[(p,pl,r9)],?_,hq3⟩,Kd ?_⟩
                      ·rcases List.mem_append.1 hx with hx|hx
                       ·exact(fun x hx=>Nat.lt_of_lt_of_le (hrr x hx) HGR.out) x hx
                       ·rw[List.mem_singleton.1 hx]
                        exact hr3
                      ·rw[List.length_append,hsl,Nat.succ_mul]
                       rfl
                      ·rcases List.mem_append.1 hu with hu|hu
                       ·exact hso1 u hu
                       ·exact HBB.out.2.2 u hu
                      ·rw[List.length_append,hskl]
                       rfl
                      ·rw[List.length_append,Wt]
                       exact H12.out.pick [4,5,6,7,8,2,0,9,10,11,12,13] (by decide) (by simp[Z5])
                     case measure=>have:=HQ0.out.2.2.2.2.2.2.2.2.1;simp[intOf];omega
       ·have hq:=HQ.out
        rw[if_neg (by rw[HFU.out];exact Bool.false_ne_true),hmis] at hq;dsimp only at hq;obtain⟨hN,hm,hn,hok,-⟩:=HN.out;have hxm:x∈Ms:=List.mem_of_getElem? hix;obtain⟨hxo,hxq⟩:=hok x (by rw[hMs];exact hxm);obtain⟨nb,no,rfl,hnb,n0,n1,n2,n3,n4⟩:=Sz ((y2.pick [7] (by decide) (by simp[Z5])).ro) (by rw[←hMs,hm];exact him:i<Ms.length);have hxi:Ms[i]'(by rw[←hMs,hm];exact him)=x :=(by have:=List.getElem?_eq_getElem (by rw[←hMs,hm];exact him:i<Ms.length);rw[hix] at this;exact(Option.some.inj this).symm);rw[hxi] at n0 n1 n2 n3 n4;have kp2:=HC.out.2.1 _ _ (y2.pick [11] (by decide) (by simp[Z5]));have ki2:=N0 x F g V2 M2 S2 y2 HQ0.out.2.2.2.1 hxo.ok (hxo.set.keep kp2);have hgi:=Hv HQ0.out.2.2.2.1.len HQ0.out.2.2.2.2.1.ok x.1 hxo.pq hxo.pp;obtain⟨Av,nv,cv,ev⟩:=hxo.set.shape;unfold M9 at ki2;rw[ev] at n1 ki2;obtain⟨⟨ri,S3⟩,hri⟩:∃ r,Tm.infer S2 x.1=r:=⟨_,rfl⟩;rw[hri] at ki2 hq hgi;dsimp only at hq hgi ki2;have h1:(0:Int)≤(i:Int):=Int.natCast_nonneg _;have h2:(i:Int)<(m:Int):=Int.ofNat_lt.2 him;have HG:=Kd2 hq hgi;clear ki z2 y2 hmis hq hN hm hn hok hxm hxo hxq hnb hxi kp2 hgi hri him hix ev;generalize x.1.q.path=xp at n0 ki2;generalize x.1.path=xq at n2 ki2;generalize x.1.place=xl at n3 ki2;generalize x.1.number=xn at n4 ki2;clear c6 i0 i1 hm1 q0 q1 q2 q3 q4 q5 q6 q7 q8 q9 hbl hW1 hg9 hMs;go_wp2_with fail;refine ki2.mono ?_;rintro e w3 ⟨V3,M3,hv3,hs3,rfl,y3⟩;have HV:=Kd2 hv3 hs3;have y4:=y3.alloc 3 #[.int .i64 (ri:Int)];have hrd4:=y4.blkRd;have Y4:=Kd (y4.pick [6,0,1,2,3,4,5,7,8,9,10,11,12,13] (by decide) (by simp[Z5]));have HRD:=Kd hrd4;have hb1:rs.length+1≤maxLen :=(by have:=HQ0.out.2.1;have:=HNm.out;have:=HQ0.out.2.2.2.2.2.2.2.2.1;unfold maxLen;omega);have hb2:(rs.length+1)*8≤140737488355328 :=(by have:=HQ0.out.2.1;have:=HNm.out;have:=HQ0.out.2.2.2.2.2.2.2.2.1;omega);clear ki2 hv3 hs3 y3 y4 hrd4;go_wp2_with (at_builtin;go_must (refine Jw 54 Y4.out underlying54 Wg rfl HRD.out rfl (by decide) (fun u hu=>by rw[List.mem_singleton.1 hu];rfl) hb1 hb2 rfl _ _ rfl rfl rfl ?_);intro A5 c5 w5 h5);have H5:=Kd h5;clear h5 HRD Y4;go_wp2
        go_roundw
        case rel=>
         obtain⟨hns,hrs,hbk,hso,hgr,hrr,hsl,hso1,hjN,hskl⟩:=HQ0.out;obtain⟨hq,hgi,hlt⟩:=HG.out;refine⟨j+1,ns,V3,M3,S3,A5,c5,rs++[ri],kA,kc,sks,Nat.succ_le_of_lt hjN,by go_num,by rw[List.length_append];rfl,rfl,Kd ⟨by omega,by rw[List.length_append,List.length_singleton];omega,hbk.trans HV.out.1.back,HV.out.2,hgr.trans hgi,fun r hr=>?_,hsl,hso1,sk,hskl,hq⟩,Kd ?_⟩
         ·rcases List.mem_append.1 hr with hr|hr
          ·exact Nat.lt_of_lt_of_le (hrr r hr) hgi.le
          ·rw[List.mem_singleton.1 hr]
           exact hlt
         ·rw[List.length_append,Wt,HV.out.1.skp]
          exact H5.out.pick [2,3,4,5,6,0,7,8,9,10,11,12] (by decide) (by simp[Z5])
        case measure=>have:=HQ0.out.2.2.2.2.2.2.2.2.1;simp[intOf];omega
    ·obtain rfl:j=N:=Nat.le_antisymm hj (Nat.le_of_not_lt hjN)
     have hge:decide ((j:Int)<(j:Int))=false :=(by simp);subst hMs;obtain⟨hS,hF,IH⟩:=HC.out;obtain⟨hN,hm,hn,hok,hpP,hpd,gc1,gc2,hrc,g1,g2,hm0'⟩:=HN.out;obtain⟨hns,hrs,hbk,hso,hgr,hrr,hsl,hso1,sk,hskl,hq⟩:=hq.out;have hdrop:(Tm.Zp (X.map Qf) p).drop j=[]:=List.drop_eq_nil_of_le (by rw[←Up,List.length_map,hN];exact Nat.le_refl _);rw[hdrop,Tm.J7] at hq;obtain⟨hxo,-⟩:=hok x0 (List.mem_cons_self ..);obtain⟨nb,no,rfl,hnb,n0,n1,n2,n3,n4⟩:=Sz ((hst.out.pick [7] (by decide) (by simp[Z5])).ro) (by simp:0<(x0::Mt).length);rw[Nat.zero_mul,Nat.add_zero,List.getElem_cons_zero] at n0 n1 n2 n3 n4;obtain⟨Av,nv,cv,ev⟩:=hxo.set.shape;obtain⟨vA,vn,vc,hv1,hv2,hv3⟩:=hS.ra p;have y1:St lo w0 wr ((O4 rA rs::Z5 g V2 M2 S2)++[Ja 3 (.slice kA ns kc) ns sks,Xl (some ⟨nb,no,none⟩) ((x0::Mt).flatMap Hn),V8 V.dec D,Xy V.cho (D.map Zg),Qh 49 1 V2.skp k vs,R]):=St.turn (R:=Xl rA (Q8 rs)) (St.quRead (size:=1) (n:=rs.length) (c:=rc) (hst.out.pick [5,0,1,2,3,4,6,7,8,9,10,11] (by decide) (by simp[Z5])) (by rw[Jn,Nat.mul_one])) fun F h=>h;have kl:=learn_spec (X.map Qf) P p x0.1 x0.2 F rs rA rc ab amn MA vA vn vc g V2 M2 S2 (hF.group (List.mem_of_getElem? (i:=5) rfl)) y1.frameIn hso hgr.ok hS.pk hxo.ok hpP hxo.pq hxo.pp hxo.set hrr (by have:=HNm.out;omega) (by rw[hbk.am];exact HD.out.2.2.2.2.1) hS.ma hS.fa hv1 hv2 hv3;have hgl:=grown_learn (X.map Qf) p x0.1 rs S2 hso.len hgr.ok hpP hxo.pq hxo.pp hrr;obtain⟨⟨ri,S3⟩,hri⟩:∃ r,Tm.Wq (X.map Qf) p x0.1 rs S2=r:=⟨_,rfl⟩;rw[hri] at kl hq hgl;dsimp only at hgl;rw[ev] at n1 kl;have hq:res=(none,ri,S3):=hq;subst hq;have HE:=Kd3 hbk hgr hgl;have i3:(0:Int)<(m:Int):=Int.ofNat_lt.2 hm0;clear hS hF IH hN hm hn hok hpP hpd gc1 gc2 hrc g1 g2 hm0' hns hrs hbk hso hgr hrr hsl hso1 hskl hdrop hxo ev hv1 hv2 hv3 y1 hgl hri hst hnb;generalize x0.1.q.path=xp at n0 kl;generalize x0.1.path=xq at n2 kl;generalize x0.1.place=xl at n3 kl;generalize x0.1.number=xn at n4 kl;go_wp2_with fail;refine kl.mono ?_;rintro e w3 ⟨V3,M3,hv3,hs3,rfl,y3⟩;have Y3:=Kd y3.frameOut;have H3:=Kd2 hv3 hs3;clear kl hv3 hs3 y3 n0 n1 n2 n3 n4;go_wp2;go_ret2;obtain⟨hbk,hgr,hgl,hri⟩:=HE.out;have hb3:=hbk.trans H3.out.1.back;refine⟨V3,M3,rfl,hb3,H3.out.2,hgr.trans hgl,.inr hri,?_⟩;rw[Gm hb3,H3.out.1.skp];exact Y3.out.pick [0,1,2,3,4,7,8,9,10] (by decide) (by simp[Z5])
theorem Sg {lo:Nat} {w0 wS:World} {F:Nat→Prop} {X:List Qi} {roots:List Tm.Qw} {P:List Tm.Qk} {rv:Value} {cb cmn ab amn:Nat} {MC MA:Lit→Option Value} (hS:Ok wS F X roots P rv cb cmn MC ab amn MA) (g:Nat):∀ f,SlvK lo w0 wS F X roots P rv cb ab g f
 |0=>fun w V M S D k vs R _ _ _ _ _ _ _ _ ho=>absurd ho (Nat.not_lt_zero _)
 |f+1=>solve_step hS g f (Sg hS g f)
end Go.Proofs.YtiefajiebebgoaaGreatDoor
