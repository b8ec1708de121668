/-
  Package proof at the example: the decisions,with the visit of Check,in the program.
-/
import Derived.Test.YtiefajiebebgoaaGreatDoorQHd
import Derived.Test.YtiefajiebebgoaaGreatDoorQPk
set_option maxRecDepth 20000
set_option maxHeartbeats 32000000
open Go.Proofs.Tryz
namespace Go.Proofs.YtiefajiebebgoaaGreatDoor
set_option linter.unusedVariables false
open Go.RowKit Go.Shelf
attribute [local go_sem] Oper.semAt_some
theorem St.kept {lo:Nat} {w0 w wS:World} {F:Nat→Prop} {Rs:List Q3} (h:St lo w0 w (Hb F wS::Rs)):Qm F wS w:=by obtain⟨F',⟨-,h1,-⟩,-,-⟩:=h.open;exact h1
def Iv (A qA rA sA:Option Addr) (c qC rC sC:Nat) (F:Nat→Prop) (lo:Nat) (w0:World):Prop:=Qx w0 F (.slice A 4 c) (Jl (.slice qA 1 qC))∧Qt w0 F (.slice rA 1 rC) Bk∧Z9 w0 F sA (exS.flatMap Wm)∧∀ W,Below lo w0 W→Ji W
theorem decide_ex (A qA iA rA sA kA dA:Option Addr) (c qC iN iC rC sC kC dC gc b3 b4 b5 lo:Nat) (F:Nat→Prop) (w0 w:World) (hx:Iv A qA rA sA c qC rC sC F lo w0) (hF:∀ k,F k→k<lo)
 (y:St lo w0 w [Qa b5 4 #[.bool true],Qa b4 49 #[.slice kA 0 kC],Qa b3 158 #[.pointer (some ⟨gc,0,none⟩)],Qa gc 219 #[.slice A 4 c,.slice iA iN iC,.slice rA 1 rC,.slice dA 1 dC]]):
 Calls prog 79 #[.pointer (some ⟨gc,0,none⟩),.slice sA 2 sC,.func (.func 80) #[] #[.pointer (some ⟨b3,0,none⟩),.pointer (some ⟨b4,0,none⟩),.pointer (some ⟨b5,0,none⟩)]] w fun e w'=>e=.returned (.bool true)∧St lo w0 w' [Qa b5 4 #[.bool true],Qa b4 49 #[.slice kA 0 kC],Qa b3 158 #[.pointer (some ⟨gc,0,none⟩)],Qa gc 219 #[.slice A 4 c,.slice iA iN iC,.slice rA 1 rC,.slice dA 1 dC]]:=by
 obtain⟨_,_,M,e1,e2,-,-,hrd,hsf⟩:=id hx.2.1;obtain⟨⟨q,v⟩,rfl⟩:∃ m,M=[m]:=List.length_eq_one_iff.1 (by rw[←List.length_map (f:=Prod.fst),e1];rfl);obtain rfl:q=⟨Qq,[(0,1000000)]⟩:=by injection e1
 obtain⟨rfl,-,rfl⟩:=Value.slice.inj e2;have hsv:=hsf _ (List.mem_singleton.2 rfl);obtain⟨vA,vC,e3,-,-,-⟩:=id hsv;have e3:v=.slice vA 1 vC:=e3;subst e3;have hrd:Z9 w0 F rA [.string ⟨Qq.toArray⟩,.slice vA 1 vC]:=hrd;obtain⟨sb,so,rfl,hsb,-⟩:=W8 hx.2.2.1;have HH:=Kd5 hx.1 hsv hx.2.2.1 hF hx.2.2.2;have kcl:=Dt rA 1 rC [.string ⟨Qq.toArray⟩,.slice vA 1 vC] F w (hrd.keep (Qm.under y.below hF)) (fun u hu=>by simp at hu;rcases hu with rfl|rfl<;>rfl) rfl (by decide);have x2:=(y.pk [3]).blk.cell 2;have Y0:=Kd y;clear hx hF y e1 e2 hrd hsf hsv;go_enter func79,ntmps79;go_wp2_with fail;refine kcl.mono ?_;rintro e v1 ⟨nA,nC,rfl,z1⟩;have Y1:=Kd (((Y0.out.graft z1).toQu).quNil 4 38);clear kcl x2 z1 Y0;go_wp2;refine wp_loop_rounds 3 ?_;rw[rounds_succ];obtain⟨nb0,no0,rfl,-,-,-⟩:=(Y1.out.pk [1]).qu_cell (by decide);go_wp2;obtain⟨c0,hV⟩:∃ W,v1.alloc (.cells #[.string ⟨#[]⟩] 9)=W:=⟨_,rfl⟩;obtain⟨g9,hg9⟩:∃ g,v1.heap.size=g:=⟨_,rfl⟩;have Z0:=Kd (Y1.out.alloc 9 #[.string ⟨#[]⟩]);rw[hV,hg9] at Z0 ⊢;clear hV hg9 Y1;refine wp_loop_rounds 2 ?_;rw[rounds_succ];obtain⟨_,_,e,-,-,nc⟩:=(Z0.out.pk [2]).qu_cell (by decide)
 cases e
 have n0:=nc 0 _ rfl;have n1:=nc 1 _ rfl;simp only[Nat.add_zero] at n0;clear nc;have y2:=Z0.out.alloc 43 #[.string ⟨Qq.toArray⟩,.slice vA 1 vC];have kd:Calls prog 129 #[.slice none 0 0,.func (.func 130) #[] #[.pointer (some ⟨c0.heap.size,0,none⟩)]] (c0.alloc (.cells #[.string ⟨Qq.toArray⟩,.slice vA 1 vC] 43)) fun e w'=>e=.returned (.bool false)∧Below (c0.alloc (.cells #[.string ⟨Qq.toArray⟩,.slice vA 1 vC] 43)).heap.size (c0.alloc (.cells #[.string ⟨Qq.toArray⟩,.slice vA 1 vC] 43)) w':=Dq [] none 0 c0.heap.size Qq _ _ ((y2.pk [2]).quRd rfl) (by decide) (y2.blk.cell 0);have Y2:=Kd y2;clear y2 Z0;go_wp2_with fail;refine kd.mono ?_;rintro e d00 ⟨rfl,z5⟩;have y3:=Y2.out.under z5;have q0:=y3.blk.cell 0;have ql:=y3.blk.lt;have g0:=(y3.pk [1]).blk.cell 0;have f0:=(y3.pk [1]).blk.frozen 0;have y4:=y3.tail.set_ 0 (.string ⟨Qq.toArray⟩);simp only[List.setIfInBounds_toArray,List.set_cons_zero] at y4;have Z1:=Kd y4;clear kd n0 n1 Y2 z5 y3 y4;generalize c0.heap.size=gq at q0 ql ⊢;go_wp2;obtain⟨m00,hV⟩:∃ W,d00.setCell ⟨g9,0,none⟩ (.string ⟨Qq.toArray⟩)=W:=⟨_,rfl⟩;rw[hV] at Z1 ⊢;clear hV q0 ql g0 f0;rw[rounds_succ];have kw:Calls prog 131 #[.slice (some ⟨sb,so,none⟩) 2 sC,.func (.func 132) #[] #[.pointer (some ⟨g9,0,none⟩)]] m00 fun e w'=>e=.returned (.int .i64 0)∧Below m00.heap.size m00 w':=Iy exS (some ⟨sb,so,none⟩) sC g9 0 Qq F m00 (HH.out.2.2.1.keep (Qm.under Z1.out.below HH.out.2.2.2.1)) (by decide) (Z1.out.blk.cell 0) (by decide) rfl (by decide);go_wp2_with fail;refine kw.mono ?_;rintro e e0 ⟨rfl,z6⟩;have U:=Kd ((Z1.out.under z6).tail);clear kw z6 Z1
 have hS:∀ W',St lo w0 W' [Qa gc 219 #[.slice A 4 c,.slice iA iN iC,.slice rA 1 rC,.slice dA 1 dC]]→W'.cell? ⟨gc,0,none⟩=some (.slice A 4 c)∧W'.cell? ⟨gc,1,none⟩=some (.slice iA iN iC)∧W'.cell? ⟨sb,so,none⟩=some (.string ⟨Qq.toArray⟩)∧W'.cell? ⟨sb,so+1,none⟩=some (.int .i64 1)∧W'.cell? ⟨sb,so+2,none⟩=some (.int .i64 0)∧W'.cell? ⟨sb,so+3,none⟩=some (.int .i64 0):=fun W' y=>by
  obtain⟨_,_,e,-,-,r0,r1,r2,r3,r4,r5,r6,r7⟩:=W8 (HH.out.2.2.1.keep (Qm.under y.below HH.out.2.2.2.1))
  cases e
  exact⟨y.blk.cell 0,y.blk.cell 1,r0,r1,r2,r3⟩
 have HS:=Kd hS;clear hS;go_wp2_with fail;apply Xt (fun (pr:Nat) (fA:Option Addr) (fC:Nat) w'=>St lo w0 w' [Qa pr 46 #[.string ⟨Qq.toArray⟩,.int .i64 1,.int .i64 0,.int .i64 0,.slice fA 1 fC,.string ⟨#[]⟩,.string ⟨#[]⟩,.string ⟨#[]⟩,.bool false],rqR (.slice fA 1 fC) [⟨Qo,[(1000,1000000)]⟩],Ja 4 (.slice none 0 0) 0 [],Ja 2 (.slice (some ⟨nb0,no0,none⟩) 1 nC) 1 [.string ⟨Qq.toArray⟩,.slice vA 1 vC],Qa b5 4 #[.bool true],Qa b4 49 #[.slice kA 0 kC],Qa b3 158 #[.pointer (some ⟨gc,0,none⟩)],Qa gc 219 #[.slice A 4 c,.slice iA iN iC,.slice rA 1 rC,.slice dA 1 dC]])
 case h=>
  have rd:=(Below.refl e0.heap.size e0).drew;have s0:=HS.out _ (U.out.pk [5]);have s1:=HS.out _ (U.out.drew.pk [5]);have s2:=HS.out _ ((U.out.alloc 46 #[.string ⟨#[]⟩,.int .i64 0,.int .i64 0,.int .i64 0,.slice none 0 0,.string ⟨#[]⟩,.string ⟨#[]⟩,.string ⟨#[]⟩,.bool false]).drew.pk [6]);have s3:=HS.out _ ((U.out.drew.alloc 46 #[.string ⟨#[]⟩,.int .i64 0,.int .i64 0,.int .i64 0,.slice none 0 0,.string ⟨#[]⟩,.string ⟨#[]⟩,.string ⟨#[]⟩,.bool false]).pk [6]);refine wp_region_noPanic ?_;refine wp_region_held_drew (S:=(fun W'=>W'.cell? ⟨gc,0,none⟩=some (.slice A 4 c)∧W'.cell? ⟨gc,1,none⟩=some (.slice iA iN iC)∧W'.cell? ⟨sb,so,none⟩=some (.string ⟨Qq.toArray⟩)∧W'.cell? ⟨sb,so+1,none⟩=some (.int .i64 1)∧W'.cell? ⟨sb,so+2,none⟩=some (.int .i64 0)∧W'.cell? ⟨sb,so+3,none⟩=some (.int .i64 0))) (by kernel_rfl) ?_ (fun hH0=>?_)
  ·(with_reducible exact s1)
  refine tk 0 54 hH0 ?_;refine tk 1 55 hH0 ?_;refine tk 2 56 hH0 ?_;refine tk 3 57 hH0 ?_;refine tk 4 58 hH0 ?_;refine tk 5 59 hH0 ?_;refine tk 6 60 hH0 ?_;refine tk 7 61 hH0 ?_;refine tk 8 62 hH0 ?_;refine tk 9 63 hH0 ?_;refine tk 10 64 hH0 ?_;refine tk 11 65 hH0 ?_;refine tk 12 66 hH0 ?_;refine tk 13 67 hH0 ?_;refine Zk [14,18] ?_;refine ad 68 (fun K hK=>?_) ?_
  go_simp;(
   with_reducible refine(Dm A qA iA c qC iN iC F _ (HH.out.1.keep (Qm.under U.out.drew.below HH.out.2.2.2.1)) (HH.out.2.2.2.2 _ U.out.drew.below)).mono ?_
   rintro e w4 ⟨fA,fC,rfl,z4,hq⟩;have y5:=(U.out.drew.newRq z4 hq);have s5:=HS.out _ (y5.pk [6]);have s6:=HS.out _ ((y5.alloc 46 #[.string ⟨#[]⟩,.int .i64 0,.int .i64 0,.int .i64 0,.slice none 0 0,.string ⟨#[]⟩,.string ⟨#[]⟩,.string ⟨#[]⟩,.bool false]).pk [7])
   have s7:=HS.out _ ((y5.alloc 46 #[.string ⟨Qq.toArray⟩,.int .i64 1,.int .i64 0,.int .i64 0,.slice fA 1 fC,.string ⟨#[]⟩,.string ⟨#[]⟩,.string ⟨#[]⟩,.bool false]).pk [7]));go_wp2_with fail
  refine hK.out _ _ ?_ (fun hH1=>?_)
  ·(with_reducible exact s5)
  clear hK K hH0
  try simp only[pu]
  refine tk 15 53 hH1 ?_;refine tk 16 69 hH1 ?_;refine tk 17 70 hH1 ?_;refine Zk [18] ?_;refine an 15 fun K hK=>?_;go_simp;refine hK.out _ _ ?_ (fun hH2=>?_)
  ·(with_reducible exact s6)
  clear hK K hH1
  try simp only[pu]
  refine Zk [19] ?_;refine az fun K hK=>?_;go_simp;refine hK.out _ _ ?_ (fun hH3=>?_)
  ·(with_reducible exact s7)
  clear hK K hH2
  try simp only[pu]
  refine tk 20 16 hH3 ?_;refine dn ?_ _;rotate_left 1;refine an 15 fun K hK=>?_;go_simp;refine hK.out _ _ ?_ (fun hH4=>?_)
  ·(with_reducible exact s2)
  clear hK K hH0
  try simp only[pu]
  refine Zk [14] ?_;refine an 68 fun K hK=>?_
  go_simp;(
   with_reducible refine(Dm A qA iA c qC iN iC F _ (HH.out.1.keep (Qm.under (U.out.alloc 46 #[.string ⟨#[]⟩,.int .i64 0,.int .i64 0,.int .i64 0,.slice none 0 0,.string ⟨#[]⟩,.string ⟨#[]⟩,.string ⟨#[]⟩,.bool false]).drew.below HH.out.2.2.2.1)) (HH.out.2.2.2.2 _ (U.out.alloc 46 #[.string ⟨#[]⟩,.int .i64 0,.int .i64 0,.int .i64 0,.slice none 0 0,.string ⟨#[]⟩,.string ⟨#[]⟩,.string ⟨#[]⟩,.bool false]).drew.below)).mono ?_
   rintro e w4 ⟨fA,fC,rfl,z4,hq⟩;have y6:=((U.out.alloc 46 #[.string ⟨#[]⟩,.int .i64 0,.int .i64 0,.int .i64 0,.slice none 0 0,.string ⟨#[]⟩,.string ⟨#[]⟩,.string ⟨#[]⟩,.bool false]).drew.newRq z4 hq).swap;obtain⟨u0,u1,u2,u3,u4,u5,u6,u7,u8⟩:=Ip y6.blk;obtain⟨f0,f1,f2,f3,f4,f5,f6,f7,f8⟩:=bk9f y6.blk;have y7:=(((((((((y6.set_ 0 (.string ⟨Qq.toArray⟩)).set_ 1 (.int .i64 1)).set_ 2 (.int .i64 0)).set_ 3 (.int .i64 0)).set_ 4 (.slice fA 1 fC)).set_ 5 (.string ⟨#[]⟩)).set_ 6 (.string ⟨#[]⟩)).set_ 7 (.string ⟨#[]⟩)).set_ 8 (.bool false));have s8:=HS.out _ (y6.pk [7])
   have s9:=HS.out _ (y7.pk [7]));go_wp2_with fail
  refine hK.out _ _ ?_ (fun hH5=>?_)
  ·(with_reducible exact s8)
  clear hK K hH4
  try simp only[pu]
  refine tk 15 53 hH5 ?_;refine tk 16 69 hH5 ?_;refine tk 17 70 hH5 ?_;refine Zk [19] ?_;refine az fun K hK=>?_;go_simp;refine hK.out _ _ ?_ (fun hH6=>?_)
  ·(with_reducible exact s9)
  clear hK K hH5
  try simp only[pu]
  refine tk 20 16 hH6 ?_;refine dn ?_ _
  all_goals(refine NoPanic.normal ?_)
  all_goals
   first
    | (have yF:=(y5.alloc 46 #[.string ⟨Qq.toArray⟩,.int .i64 1,.int .i64 0,.int .i64 0,.slice fA 1 fC,.string ⟨#[]⟩,.string ⟨#[]⟩,.string ⟨#[]⟩,.bool false])
       obtain⟨pG,hpG⟩:∃ q,w4.heap.size=q:=⟨_,rfl⟩;rw[hpG] at yF ⊢
       exact⟨rfl,pG,fA,fC,rfl,yF⟩)
    | (simp only[List.setIfInBounds_toArray,List.set_cons_zero,List.set_cons_succ] at y7
       obtain⟨pG,hpG⟩:∃ q,e0.heap.size=q:=⟨_,rfl⟩;rw[hpG] at y7 ⊢
       exact⟨rfl,pG,fA,fC,rfl,y7⟩)
 case k =>
  intro pr fA fC wF y7;have y8:=(y7.pk [1,0,2,3,4,5,6,7]);obtain⟨F7,hR7,-,y9⟩:=y8.freeze;have hR7:=hR7.1;obtain⟨_,_,M7,e1,e2,-,-,hr7,hs7⟩:=id hR7;obtain⟨⟨q7,v7⟩,rfl⟩:∃ m,M7=[m]:=List.length_eq_one_iff.1 (by rw[←List.length_map (f:=Prod.fst),e1];rfl);obtain rfl:q7=⟨Qo,[(1000,1000000)]⟩:=by injection e1
  obtain⟨rfl,-,rfl⟩:=Value.slice.inj e2;have hs7:=hs7 _ (List.mem_singleton.2 rfl);obtain⟨uA,uC,e3,-,-,-⟩:=id hs7;have e3:v7=.slice uA 1 uC:=e3;subst e3;have hr7:Z9 wF F7 fA [.string ⟨Qo.toArray⟩,.slice uA 1 uC]:=hr7;have HR:=Kd2 hr7 hs7;clear e1 e2 hR7 hr7 hs7 y8 y7;have y7:=y9;clear y9;have yv:St lo w0 wF [Qa b5 4 #[.bool true],Qa b4 49 #[.slice kA 0 kC],Qa b3 158 #[.pointer (some ⟨gc,0,none⟩)],Zm [Hb F7 wF,Qa pr 46 #[.string ⟨Qq.toArray⟩,.int .i64 1,.int .i64 0,.int .i64 0,.slice fA 1 fC,.string ⟨#[]⟩,.string ⟨#[]⟩,.string ⟨#[]⟩,.bool false],Ja 4 (.slice none 0 0) 0 [],Ja 2 (.slice (some ⟨nb0,no0,none⟩) 1 nC) 1 [.string ⟨Qq.toArray⟩,.slice vA 1 vC],Qa gc 219 #[.slice A 4 c,.slice iA iN iC,.slice rA 1 rC,.slice dA 1 dC]]]:=((St.group (Ps:=[_,_,_,_,_]) (Rs:=[_,_,_]) (y7.pk [0,1,2,3,7,4,5,6]))).pk [1,2,3,0]
  have kv:=Rt gc b3 b4 b5 lo kA kC (.slice none 0 0) (.slice (some ⟨nb0,no0,none⟩) 1 nC) Qq 0 fA 1 fC w0 wF _ yv (fun W hW=>by
   have yW:=y7.under hW
   exact An A qA kA fA c qC gc kC 1 fC _ _ F W (HH.out.1.keep (Qm.under yW.below HH.out.2.2.2.1)) (yW.pk [7]).blk.lt ((yW.pk [7]).blk.cell 0))
  obtain⟨t0,t1,t2,t3,t4,t5,t6,t7,t8⟩:=Ip (y7.pk [1]).blk;clear yv U HS;have Y7:=Kd y7;clear y7;go_wp2_with fail;refine kv.mono ?_;rintro e w8 ⟨rfl,y8⟩;have y9:=St.ungroup (y8.pk [3,0,1,2]);clear kv y8 t0 t1 t2 t3 t4 t5 t6 t7 t8 Y7;obtain⟨_,_,e,-,-,r0,r1,r2,r3,r4,r5,r6,r7⟩:=W8 (HH.out.2.2.1.keep (Qm.under y9.below HH.out.2.2.2.1))
  cases e
  have ya:=(y9.pk [2,3,1,5,6,7,4,0]);have yb:=ya.alloc 38 #[.string ⟨Qq.toArray⟩,.int .i64 1,.int .i64 0,.int .i64 0];have HRD:=Kd yb.blkRd;have YB:=Kd yb;have YC:=Kd (YB.out.pk [1,2,3,4,5,6,7,8]);have pl:=(ya.pk [2]).blk.lt;have hone:∀ u∈([.string ⟨Qq.toArray⟩,.int .i64 1,.int .i64 0,.int .i64 0]:List Value),u.oneCell'=true:=fun u hu=>by simp at hu;rcases hu with rfl|rfl|rfl|rfl<;>rfl
  have HO:=Kd hone;clear ya yb YB y9 hone;have n1:0+1≤maxLen:=by decide
  have n2:(0+1)*40≤140737488355328:=by decide
  have n3:1+1≤maxLen:=by decide
  have n4:(1+1)*40≤140737488355328:=by decide
  go_wp2_with (at_builtin;first
   | (refine Jw 30 YC.out underlying30 Vx rfl HRD.out rfl (by decide) HO.out n1 n2 rfl _ _ rfl rfl rfl ?_
      intro A11 c11 w11 h11;have p4:=(h11.pk [2]).blk.cell 4;have RD2:=Kd (HR.out.1.keep (h11.pk [7]).kept);have Y12:=Kd (h11.pk [1,0,3,4,5,6,7])
      clear h11 HRD YC HO n1 n2)
   | (refine Jw (ys:=[.string ⟨Qo.toArray⟩,.slice uA 1 uC]) (m:=1) 26 Y12.out underlying26 Vy rfl RD2.out rfl (by decide) (fun u hu=>by simp at hu;rcases hu with rfl|rfl<;>rfl) n3 n4 rfl _ _ rfl rfl rfl ?_
      intro A12 c12 w12 h12))
  have X0:=Kd (h12.pk [1,0,2,3,4,5,6]);clear h12 RD2 Y12 p4 n3 n4 r0 r1 r2 r3 r4 r5 r6 r7 pl;go_wp2;rw[rounds_succ];obtain⟨nb1,no1,rfl,-,-,-⟩:=(X0.out.pk [1]).qu_cell (by decide);go_wp2;obtain⟨c1,hV⟩:∃ W,w12.alloc (.cells #[.string ⟨#[]⟩] 9)=W:=⟨_,rfl⟩;obtain⟨g9,hg9⟩:∃ g,w12.heap.size=g:=⟨_,rfl⟩;have Z0:=Kd (X0.out.alloc 9 #[.string ⟨#[]⟩]);rw[hV,hg9] at Z0 ⊢;clear hV hg9 X0;refine wp_loop_rounds 3 ?_;rw[rounds_succ];obtain⟨_,_,e,-,-,nc⟩:=(Z0.out.pk [2]).qu_cell (by decide)
  cases e
  have n0:=nc 0 _ rfl;have n1:=nc 1 _ rfl;simp only[Nat.add_zero] at n0;clear nc;have y2:=Z0.out.alloc 43 #[.string ⟨Qq.toArray⟩,.slice vA 1 vC];have kd:Calls prog 129 #[.slice A11 1 c11,.func (.func 130) #[] #[.pointer (some ⟨c1.heap.size,0,none⟩)]] (c1.alloc (.cells #[.string ⟨Qq.toArray⟩,.slice vA 1 vC] 43)) fun e w'=>e=.returned (.bool true)∧Below (c1.alloc (.cells #[.string ⟨Qq.toArray⟩,.slice vA 1 vC] 43)).heap.size (c1.alloc (.cells #[.string ⟨Qq.toArray⟩,.slice vA 1 vC] 43)) w':=Dq [(Qq,1,0,0)] A11 c11 c1.heap.size Qq _ _ ((y2.pk [2]).quRd rfl) (by decide) (y2.blk.cell 0);have Y2:=Kd y2;clear y2 Z0;go_wp2_with fail;refine kd.mono ?_;rintro e d10 ⟨rfl,z5⟩;have y3:=Y2.out.under z5;have Z1:=Kd y3.tail;clear kd n0 n1 Y2 z5 y3;go_wp2;rw[rounds_succ];obtain⟨_,_,e,-,-,nc⟩:=(Z1.out.pk [2]).qu_cell (by decide)
  cases e
  have n0:=nc 2 _ rfl;have n1:=nc 3 _ rfl;clear nc;have y2:=Z1.out.alloc 43 #[.string ⟨Qo.toArray⟩,.slice uA 1 uC];have kd:Calls prog 129 #[.slice A11 1 c11,.func (.func 130) #[] #[.pointer (some ⟨d10.heap.size,0,none⟩)]] (d10.alloc (.cells #[.string ⟨Qo.toArray⟩,.slice uA 1 uC] 43)) fun e w'=>e=.returned (.bool false)∧Below (d10.alloc (.cells #[.string ⟨Qo.toArray⟩,.slice uA 1 uC] 43)).heap.size (d10.alloc (.cells #[.string ⟨Qo.toArray⟩,.slice uA 1 uC] 43)) w':=Dq [(Qq,1,0,0)] A11 c11 d10.heap.size Qo _ _ ((y2.pk [2]).quRd rfl) (by decide) (y2.blk.cell 0);have Y2:=Kd y2;clear y2 Z1;go_wp2_with fail;refine kd.mono ?_;rintro e d11 ⟨rfl,z5⟩;have y3:=Y2.out.under z5;have q0:=y3.blk.cell 0;have ql:=y3.blk.lt;have g0:=(y3.pk [1]).blk.cell 0;have f0:=(y3.pk [1]).blk.frozen 0;have y4:=y3.tail.set_ 0 (.string ⟨Qo.toArray⟩);simp only[List.setIfInBounds_toArray,List.set_cons_zero] at y4;have Z2:=Kd y4;clear kd n0 n1 Y2 z5 y3 y4;generalize d10.heap.size=gq at q0 ql ⊢;go_wp2;obtain⟨m11,hV⟩:∃ W,d11.setCell ⟨g9,0,none⟩ (.string ⟨Qo.toArray⟩)=W:=⟨_,rfl⟩;rw[hV] at Z2 ⊢;clear hV q0 ql g0 f0;rw[rounds_succ];have kw:Calls prog 131 #[.slice (some ⟨sb,so,none⟩) 2 sC,.func (.func 132) #[] #[.pointer (some ⟨g9,0,none⟩)]] m11 fun e w'=>e=.returned (.int .i64 1)∧Below m11.heap.size m11 w':=Iy exS (some ⟨sb,so,none⟩) sC g9 1 Qo F m11 (HH.out.2.2.1.keep (Qm.under Z2.out.below HH.out.2.2.2.1)) (by decide) (Z2.out.blk.cell 0) (by decide) rfl (by decide);go_wp2_with fail;refine kw.mono ?_;rintro e e1 ⟨rfl,z6⟩;have U:=Kd ((Z2.out.under z6).tail);clear kw z6 Z2
  have hS:∀ W',St lo w0 W' [Qa gc 219 #[.slice A 4 c,.slice iA iN iC,.slice rA 1 rC,.slice dA 1 dC]]→W'.cell? ⟨gc,0,none⟩=some (.slice A 4 c)∧W'.cell? ⟨gc,1,none⟩=some (.slice iA iN iC)∧W'.cell? ⟨sb,so+4,none⟩=some (.string ⟨Qo.toArray⟩)∧W'.cell? ⟨sb,so+5,none⟩=some (.int .i64 1)∧W'.cell? ⟨sb,so+6,none⟩=some (.int .i64 1)∧W'.cell? ⟨sb,so+7,none⟩=some (.int .i64 0):=fun W' y=>by
   obtain⟨_,_,e,-,-,r0,r1,r2,r3,r4,r5,r6,r7⟩:=W8 (HH.out.2.2.1.keep (Qm.under y.below HH.out.2.2.2.1))
   cases e
   exact⟨y.blk.cell 0,y.blk.cell 1,r4,r5,r6,r7⟩
  have HS:=Kd hS;clear hS;go_wp2_with fail;apply Xt (fun (pr:Nat) (fA:Option Addr) (fC:Nat) w'=>St lo w0 w' [Qa pr 46 #[.string ⟨Qo.toArray⟩,.int .i64 1,.int .i64 1,.int .i64 0,.slice fA 0 fC,.string ⟨#[]⟩,.string ⟨#[]⟩,.string ⟨#[]⟩,.bool false],Ja 4 (.slice A11 1 c11) 1 [.string ⟨Qq.toArray⟩,.int .i64 1,.int .i64 0,.int .i64 0],Ja 2 (.slice (some ⟨nb1,no1,none⟩) 2 c12) 2 [.string ⟨Qq.toArray⟩,.slice vA 1 vC,.string ⟨Qo.toArray⟩,.slice uA 1 uC],Qa b5 4 #[.bool true],Qa b4 49 #[.slice kA 0 kC],Qa b3 158 #[.pointer (some ⟨gc,0,none⟩)],Qa gc 219 #[.slice A 4 c,.slice iA iN iC,.slice rA 1 rC,.slice dA 1 dC],Hb F7 wF])
  case h=>
   have rd:=(Below.refl e1.heap.size e1).drew;have s0:=HS.out _ (U.out.pk [5]);have s1:=HS.out _ (U.out.drew.pk [5]);have s2:=HS.out _ ((U.out.alloc 46 #[.string ⟨#[]⟩,.int .i64 0,.int .i64 0,.int .i64 0,.slice none 0 0,.string ⟨#[]⟩,.string ⟨#[]⟩,.string ⟨#[]⟩,.bool false]).drew.pk [6]);have s3:=HS.out _ ((U.out.drew.alloc 46 #[.string ⟨#[]⟩,.int .i64 0,.int .i64 0,.int .i64 0,.slice none 0 0,.string ⟨#[]⟩,.string ⟨#[]⟩,.string ⟨#[]⟩,.bool false]).pk [6]);refine wp_region_noPanic ?_;refine wp_region_held_drew (S:=(fun W'=>W'.cell? ⟨gc,0,none⟩=some (.slice A 4 c)∧W'.cell? ⟨gc,1,none⟩=some (.slice iA iN iC)∧W'.cell? ⟨sb,so+4,none⟩=some (.string ⟨Qo.toArray⟩)∧W'.cell? ⟨sb,so+5,none⟩=some (.int .i64 1)∧W'.cell? ⟨sb,so+6,none⟩=some (.int .i64 1)∧W'.cell? ⟨sb,so+7,none⟩=some (.int .i64 0))) (by kernel_rfl) ?_ (fun hH0=>?_)
   ·(with_reducible exact s1)
   refine tk 0 54 hH0 ?_;refine tk 1 55 hH0 ?_;refine tk 2 56 hH0 ?_;refine tk 3 57 hH0 ?_;refine tk 4 58 hH0 ?_;refine tk 5 59 hH0 ?_;refine tk 6 60 hH0 ?_;refine tk 7 61 hH0 ?_;refine tk 8 62 hH0 ?_;refine tk 9 63 hH0 ?_;refine tk 10 64 hH0 ?_;refine tk 11 65 hH0 ?_;refine tk 12 66 hH0 ?_;refine tk 13 67 hH0 ?_;refine Zk [14,18] ?_;refine ad 68 (fun K hK=>?_) ?_
   go_simp;(
    with_reducible refine(Dl A qA iA c qC iN iC 1 (.inr (.inl rfl)) F _ (HH.out.1.keep (Qm.under U.out.drew.below HH.out.2.2.2.1)) (HH.out.2.2.2.2 _ U.out.drew.below)).mono ?_
    rintro e w4 ⟨fA,fC,rfl,z4⟩;have y5:=(U.out.drew.under z4);have s5:=HS.out _ (y5.pk [5]);have s6:=HS.out _ ((y5.alloc 46 #[.string ⟨#[]⟩,.int .i64 0,.int .i64 0,.int .i64 0,.slice none 0 0,.string ⟨#[]⟩,.string ⟨#[]⟩,.string ⟨#[]⟩,.bool false]).pk [6])
    have s7:=HS.out _ ((y5.alloc 46 #[.string ⟨Qo.toArray⟩,.int .i64 1,.int .i64 1,.int .i64 0,.slice fA 0 fC,.string ⟨#[]⟩,.string ⟨#[]⟩,.string ⟨#[]⟩,.bool false]).pk [6]));go_wp2_with fail
   refine hK.out _ _ ?_ (fun hH1=>?_)
   ·(with_reducible exact s5)
   clear hK K hH0
   try simp only[pu]
   refine tk 15 53 hH1 ?_;refine tk 16 69 hH1 ?_;refine tk 17 70 hH1 ?_;refine Zk [18] ?_;refine an 15 fun K hK=>?_;go_simp;refine hK.out _ _ ?_ (fun hH2=>?_)
   ·(with_reducible exact s6)
   clear hK K hH1
   try simp only[pu]
   refine Zk [19] ?_;refine az fun K hK=>?_;go_simp;refine hK.out _ _ ?_ (fun hH3=>?_)
   ·(with_reducible exact s7)
   clear hK K hH2
   try simp only[pu]
   refine tk 20 16 hH3 ?_;refine dn ?_ _;rotate_left 1;refine an 15 fun K hK=>?_;go_simp;refine hK.out _ _ ?_ (fun hH4=>?_)
   ·(with_reducible exact s2)
   clear hK K hH0
   try simp only[pu]
   refine Zk [14] ?_;refine an 68 fun K hK=>?_
   go_simp;(
    with_reducible refine(Dl A qA iA c qC iN iC 1 (.inr (.inl rfl)) F _ (HH.out.1.keep (Qm.under (U.out.alloc 46 #[.string ⟨#[]⟩,.int .i64 0,.int .i64 0,.int .i64 0,.slice none 0 0,.string ⟨#[]⟩,.string ⟨#[]⟩,.string ⟨#[]⟩,.bool false]).drew.below HH.out.2.2.2.1)) (HH.out.2.2.2.2 _ (U.out.alloc 46 #[.string ⟨#[]⟩,.int .i64 0,.int .i64 0,.int .i64 0,.slice none 0 0,.string ⟨#[]⟩,.string ⟨#[]⟩,.string ⟨#[]⟩,.bool false]).drew.below)).mono ?_
    rintro e w4 ⟨fA,fC,rfl,z4⟩;have y6:=((U.out.alloc 46 #[.string ⟨#[]⟩,.int .i64 0,.int .i64 0,.int .i64 0,.slice none 0 0,.string ⟨#[]⟩,.string ⟨#[]⟩,.string ⟨#[]⟩,.bool false]).drew.under z4);obtain⟨u0,u1,u2,u3,u4,u5,u6,u7,u8⟩:=Ip y6.blk;obtain⟨f0,f1,f2,f3,f4,f5,f6,f7,f8⟩:=bk9f y6.blk;have y7:=(((((((((y6.set_ 0 (.string ⟨Qo.toArray⟩)).set_ 1 (.int .i64 1)).set_ 2 (.int .i64 1)).set_ 3 (.int .i64 0)).set_ 4 (.slice fA 0 fC)).set_ 5 (.string ⟨#[]⟩)).set_ 6 (.string ⟨#[]⟩)).set_ 7 (.string ⟨#[]⟩)).set_ 8 (.bool false));have s8:=HS.out _ (y6.pk [6])
    have s9:=HS.out _ (y7.pk [6]));go_wp2_with fail
   refine hK.out _ _ ?_ (fun hH5=>?_)
   ·(with_reducible exact s8)
   clear hK K hH4
   try simp only[pu]
   refine tk 15 53 hH5 ?_;refine tk 16 69 hH5 ?_;refine tk 17 70 hH5 ?_;refine Zk [19] ?_;refine az fun K hK=>?_;go_simp;refine hK.out _ _ ?_ (fun hH6=>?_)
   ·(with_reducible exact s9)
   clear hK K hH5
   try simp only[pu]
   refine tk 20 16 hH6 ?_;refine dn ?_ _
   all_goals(refine NoPanic.normal ?_)
   all_goals
    first
     | (have yF:=(y5.alloc 46 #[.string ⟨Qo.toArray⟩,.int .i64 1,.int .i64 1,.int .i64 0,.slice fA 0 fC,.string ⟨#[]⟩,.string ⟨#[]⟩,.string ⟨#[]⟩,.bool false])
        obtain⟨pG,hpG⟩:∃ q,w4.heap.size=q:=⟨_,rfl⟩;rw[hpG] at yF ⊢
        exact⟨rfl,pG,fA,fC,rfl,yF⟩)
     | (simp only[List.setIfInBounds_toArray,List.set_cons_zero,List.set_cons_succ] at y7
        obtain⟨pG,hpG⟩:∃ q,e1.heap.size=q:=⟨_,rfl⟩;rw[hpG] at y7 ⊢
        exact⟨rfl,pG,fA,fC,rfl,y7⟩)
  case k=>
   intro pr fA fC w7 y7;have yv:St lo w0 w7 [Qa b5 4 #[.bool true],Qa b4 49 #[.slice kA 0 kC],Qa b3 158 #[.pointer (some ⟨gc,0,none⟩)],Zm [Qa pr 46 #[.string ⟨Qo.toArray⟩,.int .i64 1,.int .i64 1,.int .i64 0,.slice fA 0 fC,.string ⟨#[]⟩,.string ⟨#[]⟩,.string ⟨#[]⟩,.bool false],Ja 4 (.slice A11 1 c11) 1 [.string ⟨Qq.toArray⟩,.int .i64 1,.int .i64 0,.int .i64 0],Ja 2 (.slice (some ⟨nb1,no1,none⟩) 2 c12) 2 [.string ⟨Qq.toArray⟩,.slice vA 1 vC,.string ⟨Qo.toArray⟩,.slice uA 1 uC],Qa gc 219 #[.slice A 4 c,.slice iA iN iC,.slice rA 1 rC,.slice dA 1 dC],Hb F7 wF]]:=((St.group (Ps:=[_,_,_,_,_]) (Rs:=[_,_,_]) (y7.pk [0,1,2,6,7,3,4,5]))).pk [1,2,3,0]
   have kv:=Rt gc b3 b4 b5 lo kA kC (.slice A11 1 c11) (.slice (some ⟨nb1,no1,none⟩) 2 c12) Qo 1 fA 0 fC w0 w7 _ yv (fun W hW=>by
    have yW:=y7.under hW;have hk:=(yW.pk [7]).kept
    have hn:Qt W (fun k=>lo≤k∨F k∨F7 k) (.slice (some ⟨nb1,no1,none⟩) 2 c12) [⟨Qq,[(0,1000000)]⟩,⟨Qo,[(1000,1000000)]⟩]:=by
     obtain⟨_,_,e,hn1,hn2⟩:=(yW.pk [2]).qu_form;obtain⟨rfl,-,rfl⟩:=Value.slice.inj e;refine⟨_,_,[(⟨Qq,[(0,1000000)]⟩,.slice vA 1 vC),(⟨Qo,[(1000,1000000)]⟩,.slice uA 1 uC)],rfl,rfl,hn1,hn2,((yW.pk [2]).quRd (xs:=[.string ⟨Qq.toArray⟩,.slice vA 1 vC,.string ⟨Qo.toArray⟩,.slice uA 1 uC]) rfl).mono fun k hk=>.inl hk,fun m hm=>?_⟩;simp only[List.mem_cons,List.not_mem_nil,or_false] at hm;rcases hm with rfl|rfl
     ·exact(HH.out.2.1.keep (Qm.under yW.below HH.out.2.2.2.1)).mono fun k hk=>.inr (.inl hk)
     ·exact(HR.out.2.keep hk).mono fun k hk=>.inr (.inr hk)
    exact Am A qA kA fA c qC gc kC 0 fC _ F W (HH.out.1.keep (Qm.under yW.below HH.out.2.2.2.1)) (yW.pk [6]).blk.lt ((yW.pk [6]).blk.cell 0) _ _ _ hn)
   obtain⟨t0,t1,t2,t3,t4,t5,t6,t7,t8⟩:=Ip (y7.pk [0]).blk;clear yv U HS;have Y7:=Kd y7;clear y7;go_wp2_with fail;refine kv.mono ?_;rintro e w8 ⟨rfl,y8⟩;have y9:=St.ungroup (y8.pk [3,0,1,2]);clear kv y8 t0 t1 t2 t3 t4 t5 t6 t7 t8 Y7;obtain⟨_,_,e,-,-,r0,r1,r2,r3,r4,r5,r6,r7⟩:=W8 (HH.out.2.2.1.keep (Qm.under y9.below HH.out.2.2.2.1))
   cases e
   have ya:=(y9.pk [1,2,0,5,6,7,3,4]);have yb:=ya.alloc 38 #[.string ⟨Qo.toArray⟩,.int .i64 1,.int .i64 1,.int .i64 0];have HRD:=Kd yb.blkRd;have YB:=Kd yb;have YC:=Kd (YB.out.pk [1,2,3,4,5,6,7,8]);have pl:=(ya.pk [2]).blk.lt;have hone:∀ u∈([.string ⟨Qo.toArray⟩,.int .i64 1,.int .i64 1,.int .i64 0]:List Value),u.oneCell'=true:=fun u hu=>by simp at hu;rcases hu with rfl|rfl|rfl|rfl<;>rfl
   have HO:=Kd hone;clear ya yb YB y9 hone;have n1:1+1≤maxLen :=(by decide);have n2:(1+1)*40≤140737488355328 :=(by decide);have n3:2+0≤maxLen :=(by decide);have n4:(2+0)*40≤140737488355328:=by decide
   go_wp2_with (at_builtin;first
    | (refine Jw 30 YC.out underlying30 Vx rfl HRD.out rfl (by decide) HO.out n1 n2 rfl _ _ rfl rfl rfl ?_
       intro A11 c11 w11 h11;have p4:=(h11.pk [2]).blk.cell 4;have RD2:=Kd (Z9.nil w11 (fun _=>False) fA);have Y12:=Kd (h11.pk [1,0,3,4,5,6,7])
       clear h11 HRD YC HO n1 n2)
    | (refine Jw (ys:=[]) (m:=0) 26 Y12.out underlying26 Vy rfl RD2.out rfl (by decide) (fun u hu=>by cases hu) n3 n4 rfl _ _ rfl rfl rfl ?_
       intro A12 c12 w12 h12))
   have X1:=Kd (h12.pk [1,0,2,3,4,5,6]);clear h12 RD2 Y12 p4 n3 n4 r0 r1 r2 r3 r4 r5 r6 r7 pl;go_wp2;rw[rounds_succ];obtain⟨nb2,no2,rfl,-,-,-⟩:=(X1.out.pk [1]).qu_cell (by decide);go_wp2;obtain⟨c2,hV⟩:∃ W,w12.alloc (.cells #[.string ⟨#[]⟩] 9)=W:=⟨_,rfl⟩;obtain⟨g9,hg9⟩:∃ g,w12.heap.size=g:=⟨_,rfl⟩;have Z0:=Kd (X1.out.alloc 9 #[.string ⟨#[]⟩]);rw[hV,hg9] at Z0 ⊢;clear hV hg9 X1;refine wp_loop_rounds 3 ?_;rw[rounds_succ];obtain⟨_,_,e,-,-,nc⟩:=(Z0.out.pk [2]).qu_cell (by decide)
   cases e
   have n0:=nc 0 _ rfl;have n1:=nc 1 _ rfl;simp only[Nat.add_zero] at n0;clear nc;have y2:=Z0.out.alloc 43 #[.string ⟨Qq.toArray⟩,.slice vA 1 vC];have kd:Calls prog 129 #[.slice A11 2 c11,.func (.func 130) #[] #[.pointer (some ⟨c2.heap.size,0,none⟩)]] (c2.alloc (.cells #[.string ⟨Qq.toArray⟩,.slice vA 1 vC] 43)) fun e w'=>e=.returned (.bool true)∧Below (c2.alloc (.cells #[.string ⟨Qq.toArray⟩,.slice vA 1 vC] 43)).heap.size (c2.alloc (.cells #[.string ⟨Qq.toArray⟩,.slice vA 1 vC] 43)) w':=Dq [(Qq,1,0,0),(Qo,1,1,0)] A11 c11 c2.heap.size Qq _ _ ((y2.pk [2]).quRd rfl) (by decide) (y2.blk.cell 0);have Y2:=Kd y2;clear y2 Z0;go_wp2_with fail;refine kd.mono ?_;rintro e d20 ⟨rfl,z5⟩;have y3:=Y2.out.under z5;have Z1:=Kd y3.tail;clear kd n0 n1 Y2 z5 y3;go_wp2;rw[rounds_succ];obtain⟨_,_,e,-,-,nc⟩:=(Z1.out.pk [2]).qu_cell (by decide)
   cases e
   have n0:=nc 2 _ rfl;have n1:=nc 3 _ rfl;clear nc;have y2:=Z1.out.alloc 43 #[.string ⟨Qo.toArray⟩,.slice uA 1 uC];have kd:Calls prog 129 #[.slice A11 2 c11,.func (.func 130) #[] #[.pointer (some ⟨d20.heap.size,0,none⟩)]] (d20.alloc (.cells #[.string ⟨Qo.toArray⟩,.slice uA 1 uC] 43)) fun e w'=>e=.returned (.bool true)∧Below (d20.alloc (.cells #[.string ⟨Qo.toArray⟩,.slice uA 1 uC] 43)).heap.size (d20.alloc (.cells #[.string ⟨Qo.toArray⟩,.slice uA 1 uC] 43)) w':=Dq [(Qq,1,0,0),(Qo,1,1,0)] A11 c11 d20.heap.size Qo _ _ ((y2.pk [2]).quRd rfl) (by decide) (y2.blk.cell 0);have Y2:=Kd y2;clear y2 Z1;go_wp2_with fail;refine kd.mono ?_;rintro e d21 ⟨rfl,z5⟩;have y3:=Y2.out.under z5;have Z2:=Kd y3.tail;clear kd n0 n1 Y2 z5 y3;go_wp2;rw[rounds_succ];go_wp2;go_ret;exact⟨rfl,(Z2.out.pk [3,4,5,6])⟩
end Go.Proofs.YtiefajiebebgoaaGreatDoor
