/- Lemmas and contracts on what the walks need, several small texts in one. Conditions: as each theorem states. -/
import Derived.Test.YtiefajiebebgoaaGreatDoorQHd
import Derived.Test.YtiefajiebebgoaaGreatDoorQUcZ
import Derived.Test.YtiefajiebebgoaaGreatDoorQPc
import Derived.Test.YtiefajiebebgoaaGreatDoorQPa
import Derived.Laws.IdiomCopy
import Derived.RangeFuncNested
import Derived.RangeFuncBound
import Derived.RangeFuncCalls
import Derived.RangeFuncLeaves
set_option maxRecDepth 20000
set_option maxHeartbeats 32000000
open Go.Proofs.Tryz
namespace Go.Proofs.YtiefajiebebgoaaGreatDoor
set_option linter.unusedVariables false
open Go.RowKit Go.Shelf
attribute [local go_sem] Oper.semAt_some
theorem Jd.two {w:World} {t kt e:TypeId} {b n:Nat} {M:Lit→Option Value} {p q:List UInt8} (h:Jd w kt b n M) (ht:prog.underlying t=some (.map kt e)) (h1:(M (.string p)).isSome=true) (h2:(M (.string q)).isSome=true) (hne:p≠q):∃ c:Nat,2≤c∧c≤n∧∀ ty,(Builtin.len_ #[t] ty #[.map (some b)]).run prog w=.ok (.int .i64 c) w:=by
 obtain⟨D,h3,h4⟩:=h;refine⟨Maps.size D,?_,h3.size_le,fun ty=>h3.len ht ty⟩;obtain⟨⟨es,rfl⟩,h5⟩:=h4;rw[←(h5 _).1,Maps.has_eq] at h1 h2;rw[Maps.size_eq]
 match es,h1,h2 with
 |[],h1,_=>cases h1
 |[x],h1,h2 =>exfalso;simp only[List.any_cons,List.any_nil,Bool.or_false] at h1 h2;have e1:=WideAt.sameKey_eq h1;have e2:=WideAt.sameKey_eq h2;rw[e1] at e2;exact hne (by injection e2)
 |x::y::r,_,_=>exact Nat.le_add_left 2 r.length
theorem Ay (qA sA:Option Addr) (qC sC g1 g2 n1:Nat) (M1:Lit→Option Value) (F:Nat→Prop) (w:World) (hm:Jd w 38 g1 n1 M1) (ht:It M1 (Jl (.slice qA 1 qC)) 4) (hs:Z9 w F sA (exS.flatMap Wm)):
 Calls prog 125 #[.agg #[.map (some g1),.map (some g2)],.slice sA 2 sC] w fun e w'=>∃ lA lC,e=.returned (.tuple #[.slice lA 2 lC,.int .i64 0])∧St w.heap.size w w' [Ja 9 (.slice lA 2 lC) 2 [.string ⟨Qq.toArray⟩,.int .i64 1,.int .i64 0,.int .i64 0,.slice qA 1 qC,.string ⟨#[]⟩,.string ⟨#[]⟩,.string ⟨#[]⟩,.bool false,.string ⟨Qo.toArray⟩,.int .i64 1,.int .i64 1,.int .i64 0,.slice none 0 0,.string ⟨#[]⟩,.string ⟨#[]⟩,.string ⟨#[]⟩,.bool false]]:=by
 have y0:=(St.nil w).alloc 129 #[.map (some g1),.map (some g2)];obtain⟨W0,hW0⟩:∃ W,w.alloc (.cells #[.map (some g1),.map (some g2)] 129)=W:=⟨_,rfl⟩;rw[hW0] at y0;have hA:=ht (Qq,1,0,0) ⟨by decide,by decide,by decide,by decide⟩;have hB:=ht (Qo,1,1,0) ⟨by decide,by decide,by decide,by decide⟩;replace hA:M1 (G2 (Qq,1,0,0))=some (.agg #[.string ⟨Qq.toArray⟩,.int .i64 1,.int .i64 0,.int .i64 0,.slice qA 1 qC,.string ⟨#[]⟩,.string ⟨#[]⟩,.string ⟨#[]⟩,.bool false]):=hA;replace hB:M1 (G2 (Qo,1,1,0))=some (.agg #[.string ⟨Qo.toArray⟩,.int .i64 1,.int .i64 1,.int .i64 0,.slice none 0 0,.string ⟨#[]⟩,.string ⟨#[]⟩,.string ⟨#[]⟩,.bool false]):=hB;have hlook:∀(W:World) (s:Zy) (v:Value),Below w.heap.size w W→M0 s→M1 (G2 s)=some v→(Instr.lookup 126 (.map (some g1)) (Ot s) true).run prog W=.ok (.tuple #[v,.bool true]) W:=fun W s v hW hk he=>by have:=(hm.keep (F:=fun _=>True) (Qm.of_below hW) trivial:Jd W 38 g1 n1 M1).look_ok Ia underlying126 (Ym _) (Db hk);rw[he] at this;exact this
 have HL:=Kd hlook;have HM:=Kd2 hA hB;have HS:=Kd hs;have Y0:=Kd y0;obtain⟨sb,so,rfl,-,hsl,-⟩:=W8 hs;clear hm ht hs y0 hA hB hlook;go_enter func125,ntmps125;go_wp2;refine wp_loop_rounds 2 ?_;rw[rounds_succ];go_wp2
 have hc:∀ W,Below w.heap.size w W→W.cell? ⟨sb,so,none⟩=some (.string ⟨Qq.toArray⟩)∧W.cell? ⟨sb,so+4,none⟩=some (.string ⟨Qo.toArray⟩):=fun W hW=>by
  obtain⟨_,_,e,-,-,r0,-,-,-,r4,-⟩:=W8 (HS.out.keep (Qm.of_below hW))
  cases e
  exact⟨r0,r4⟩
 have F1:=Kd (hc _ Y0.out.below);have F2:=Kd (hc _ Y0.out.drew.below);clear hc;refine wp_region_noPanic ?_;refine wp_region_held_drew (S:=(fun W'=>W'.cell? ⟨sb,so,none⟩=some (.string ⟨Qq.toArray⟩)∧W'.cell? ⟨sb,so+4,none⟩=some (.string ⟨Qo.toArray⟩))) (by kernel_rfl) ?_ (fun hH0=>?_)
 ·exact F1.out
 refine tk 0 18 hH0 ?_;refine tk 1 19 hH0 ?_;refine tk 2 20 hH0 ?_;refine tk 6 24 hH0 ?_;refine tk 7 25 hH0 ?_;refine tk 8 26 hH0 ?_;refine tk 9 27 hH0 ?_;refine tk 10 28 hH0 ?_;refine Zk [3] ?_;refine an 21 fun K hK=>?_;go_simp;go_wp2_with ((fail));refine hK.out _ _ ?_ (fun hH1=>?_)
 ·exact F1.out
 clear hK K hH0
 try simp only[pu]
 refine tk 4 22 hH1 ?_;refine tk 5 23 hH1 ?_;refine tk 11 29 hH1 ?_;refine dn ?_ _
 all_goals(refine NoPanic.normal ?_)
 have V0:=Kd (Y0.out.drew.quNil 9 46);obtain⟨v0,hv⟩:∃ W,W0.drew=W:=⟨_,rfl⟩;rw[hv] at V0;have hv:=hv;clear F1 F2 Y0;go_wp2;rw[rounds_succ];go_wp2;clear hv;refine wp_loop_rounds 3 ?_;rw[rounds_succ];obtain⟨_,_,e,-,-,r0,r1,r2,r3,r4,r5,r6,r7⟩:=W8 (HS.out.keep (Qm.of_below V0.out.below))
 cases e
 have y2:=(V0.out.alloc 38 #[.string ⟨Qq.toArray⟩,.int .i64 1,.int .i64 0,.int .i64 0]);have lk:(Instr.lookup 126 (.map (some g1)) (.agg #[.string ⟨Qq.toArray⟩,.int .i64 1,.int .i64 0,.int .i64 0]) true).run prog (v0.alloc (.cells #[.string ⟨Qq.toArray⟩,.int .i64 1,.int .i64 0,.int .i64 0] 38))=.ok (.tuple #[.agg #[.string ⟨Qq.toArray⟩,.int .i64 1,.int .i64 0,.int .i64 0,.slice qA 1 qC,.string ⟨#[]⟩,.string ⟨#[]⟩,.string ⟨#[]⟩,.bool false],.bool true]) (v0.alloc (.cells #[.string ⟨Qq.toArray⟩,.int .i64 1,.int .i64 0,.int .i64 0] 38)):=HL.out _ (Qq,1,0,0) _ y2.below ⟨by decide,by decide,by decide,by decide⟩ HM.out.1;have x0:=(V0.out.pk [1]).blk.cell 0;have xl:=(V0.out.pk [1]).blk.lt;have y3:=(y2.alloc 46 #[.string ⟨Qq.toArray⟩,.int .i64 1,.int .i64 0,.int .i64 0,.slice qA 1 qC,.string ⟨#[]⟩,.string ⟨#[]⟩,.string ⟨#[]⟩,.bool false]).alloc 46 #[.string ⟨Qq.toArray⟩,.int .i64 1,.int .i64 0,.int .i64 0,.slice qA 1 qC,.string ⟨#[]⟩,.string ⟨#[]⟩,.string ⟨#[]⟩,.bool false];have hrd:=y3.blkRd;simp only[World.size_alloc] at hrd;have HRD:=Kd hrd;have YC:=Kd (y3.pk [3,4]);have hone:∀ u∈([.string ⟨Qq.toArray⟩,.int .i64 1,.int .i64 0,.int .i64 0,.slice qA 1 qC,.string ⟨#[]⟩,.string ⟨#[]⟩,.string ⟨#[]⟩,.bool false]:List Value),u.oneCell'=true:=fun u hu=>by simp at hu;rcases hu with rfl|rfl|rfl|rfl|rfl|rfl|rfl|rfl|rfl<;>rfl
 have n1:0+1≤maxLen:=by decide
 have n2:(0+1)*120≤140737488355328:=by decide
 clear y2 y3 hrd V0;go_wp2_with (at_builtin;go_must (refine Jw 22 YC.out underlying22 Yr rfl HRD.out rfl (by decide) hone n1 n2 rfl _ _ rfl rfl rfl ?_);intro A0 C0 v1 h5);have V1:=Kd h5;clear h5 YC HRD hone n1 n2 lk x0 xl r0 r1 r2 r3 r4 r5 r6 r7;go_wp2;rw[rounds_succ];obtain⟨_,_,e,-,-,r0,r1,r2,r3,r4,r5,r6,r7⟩:=W8 (HS.out.keep (Qm.of_below V1.out.below))
 cases e
 have y2:=(V1.out.alloc 38 #[.string ⟨Qo.toArray⟩,.int .i64 1,.int .i64 1,.int .i64 0]);have lk:(Instr.lookup 126 (.map (some g1)) (.agg #[.string ⟨Qo.toArray⟩,.int .i64 1,.int .i64 1,.int .i64 0]) true).run prog (v1.alloc (.cells #[.string ⟨Qo.toArray⟩,.int .i64 1,.int .i64 1,.int .i64 0] 38))=.ok (.tuple #[.agg #[.string ⟨Qo.toArray⟩,.int .i64 1,.int .i64 1,.int .i64 0,.slice none 0 0,.string ⟨#[]⟩,.string ⟨#[]⟩,.string ⟨#[]⟩,.bool false],.bool true]) (v1.alloc (.cells #[.string ⟨Qo.toArray⟩,.int .i64 1,.int .i64 1,.int .i64 0] 38)):=HL.out _ (Qo,1,1,0) _ y2.below ⟨by decide,by decide,by decide,by decide⟩ HM.out.2;have x0:=(V1.out.pk [1]).blk.cell 0;have xl:=(V1.out.pk [1]).blk.lt;have y3:=(y2.alloc 46 #[.string ⟨Qo.toArray⟩,.int .i64 1,.int .i64 1,.int .i64 0,.slice none 0 0,.string ⟨#[]⟩,.string ⟨#[]⟩,.string ⟨#[]⟩,.bool false]).alloc 46 #[.string ⟨Qo.toArray⟩,.int .i64 1,.int .i64 1,.int .i64 0,.slice none 0 0,.string ⟨#[]⟩,.string ⟨#[]⟩,.string ⟨#[]⟩,.bool false];have hrd:=y3.blkRd;simp only[World.size_alloc] at hrd;have HRD:=Kd hrd;have YC:=Kd (y3.pk [3,4]);have hone:∀ u∈([.string ⟨Qo.toArray⟩,.int .i64 1,.int .i64 1,.int .i64 0,.slice none 0 0,.string ⟨#[]⟩,.string ⟨#[]⟩,.string ⟨#[]⟩,.bool false]:List Value),u.oneCell'=true:=fun u hu=>by simp at hu;rcases hu with rfl|rfl|rfl|rfl|rfl|rfl|rfl|rfl|rfl<;>rfl
 have n1:1+1≤maxLen:=by decide
 have n2:(1+1)*120≤140737488355328:=by decide
 clear y2 y3 hrd V1;go_wp2_with (at_builtin;go_must (refine Jw 22 YC.out underlying22 Yr rfl HRD.out rfl (by decide) hone n1 n2 rfl _ _ rfl rfl rfl ?_);intro A1 C1 v2 h5);have V2:=Kd h5;clear h5 YC HRD hone n1 n2 lk x0 xl r0 r1 r2 r3 r4 r5 r6 r7;go_wp2;rw[rounds_succ];go_wp2;go_ret2;exact⟨_,_,rfl,V2.out.pk [0]⟩
theorem Jd.below {w w':World} {kt:TypeId} {b n:Nat} {M:Lit→Option Value} (h:Jd w kt b n M) (hb:Below w.heap.size w w'):Jd w' kt b n M:=h.keep (F:=fun _=>True) (Qm.of_below hb) trivial
theorem brk_spec (p:Tm.Qk) (m pl:Int) (rA:Option Addr) (rN rC:Nat) (v:Value) (s:List Tm.Sp) (F:Nat→Prop) (gm b n:Nat) (M:Lit→Option Value) (w:World) (hm:Jd w 9 b n M) (hg:w.cell? ⟨gm,0,none⟩=some (.map (some b))) (hp:p.length≤maxLen)
 (he:M (.string p)=some (.agg #[.string ⟨p.toArray⟩,.int .i64 1,.int .i64 m,.int .i64 0,.slice rA rN rC,.string ⟨#[]⟩,.string ⟨#[]⟩,.string ⟨#[]⟩,.bool false])) (hok:Mq 1 m 0=true) (hpl:1000*m+0=pl) (hs:Qr w F v s) (hh:Tm.has s pl=true):
 Calls prog 126 #[.agg #[.string ⟨p.toArray⟩,v],.pointer (some ⟨gm,0,none⟩)] w fun e w'=>e=.returned (.bool false)∧Below w.heap.size w w':=by
 have hl:=World.block_lt_of_cell? w _ hg;obtain⟨A,c,rfl,-,-,-⟩:=id hs;obtain⟨N,hN⟩:∃ n,s.length=n:=⟨_,rfl⟩;rw[hN] at hs ⊢;have y0:=(St.nil w).alloc 43 #[.string ⟨p.toArray⟩,.slice A N c];have lk:(Instr.lookup 223 (.map (some b)) (.string ⟨p.toArray⟩) true).run prog (w.alloc (.cells #[.string ⟨p.toArray⟩,.slice A N c] 43))=.ok (.tuple #[.agg #[.string ⟨p.toArray⟩,.int .i64 1,.int .i64 m,.int .i64 0,.slice rA rN rC,.string ⟨#[]⟩,.string ⟨#[]⟩,.string ⟨#[]⟩,.bool false],.bool true]) (w.alloc (.cells #[.string ⟨p.toArray⟩,.slice A N c] 43)):=by have:=(hm.below y0.below).look_ok J8 underlying223 (Ym _) (Zb p hp);rw[he] at this;exact this
 have Y1:=Kd (y0.alloc 46 #[.string ⟨p.toArray⟩,.int .i64 1,.int .i64 m,.int .i64 0,.slice rA rN rC,.string ⟨#[]⟩,.string ⟨#[]⟩,.string ⟨#[]⟩,.bool false]);have HH:=Kd2 hs hh;have kp:∀ W,Calls prog 127 #[.agg #[.string ⟨p.toArray⟩,.int .i64 1,.int .i64 m,.int .i64 0,.slice rA rN rC,.string ⟨#[]⟩,.string ⟨#[]⟩,.string ⟨#[]⟩,.bool false]] W fun e w'=>e=.returned (.int .i64 pl)∧Below W.heap.size W w':=fun W=>by rw[←hpl];exact Nz ⟨p,1,m,0,[],.slice rA rN rC,[],[],[],false⟩ W hok rfl
 have KP:=Kd kp;clear hm hs y0 hN he hok hpl hh kp;go_enter func126,ntmps126;go_wp2_with fail;obtain⟨W2,hW2⟩:∃ W,(w.alloc (.cells #[.string ⟨p.toArray⟩,.slice A N c] 43)).alloc (.cells #[.string ⟨p.toArray⟩,.int .i64 1,.int .i64 m,.int .i64 0,.slice rA rN rC,.string ⟨#[]⟩,.string ⟨#[]⟩,.string ⟨#[]⟩,.bool false] 46)=W:=⟨_,rfl⟩;have Y2:=Y1;simp only[World.size_alloc] at Y2;rw[hW2] at Y2 ⊢;have hS:∀ W,Below W2.heap.size W2 W→W.cell? ⟨w.heap.size,1,none⟩=some (.slice A N c)∧W.cell? ⟨w.heap.size+1,0,none⟩=some (.string ⟨p.toArray⟩)∧W.cell? ⟨w.heap.size+1,1,none⟩=some (.int .i64 1)∧W.cell? ⟨w.heap.size+1,2,none⟩=some (.int .i64 m)∧W.cell? ⟨w.heap.size+1,3,none⟩=some (.int .i64 0)∧W.cell? ⟨w.heap.size+1,4,none⟩=some (.slice rA rN rC)∧W.cell? ⟨w.heap.size+1,5,none⟩=some (.string ⟨#[]⟩)∧W.cell? ⟨w.heap.size+1,6,none⟩=some (.string ⟨#[]⟩)∧W.cell? ⟨w.heap.size+1,7,none⟩=some (.string ⟨#[]⟩)∧W.cell? ⟨w.heap.size+1,8,none⟩=some (.bool false):=fun W z=>by have y:=Y2.out.under z;have b:=y.blk;exact⟨(y.pk [1]).blk.cell 1,b.cell 0,b.cell 1,b.cell 2,b.cell 3,b.cell 4,b.cell 5,b.cell 6,b.cell 7,b.cell 8⟩
 have hk:∀ W,Below W2.heap.size W2 W→Calls prog 96 #[.slice A N c,.int .i64 pl] W fun e w'=>e=.returned (.bool true)∧Below W.heap.size W w':=fun W z=>by have:=Ys s _ F pl W (HH.out.1.below (Y2.out.under z).below);rw[HH.out.2] at this;exact this
 have HS:=Kd hS;have KH:=Kd hk;have r1:Below W2.heap.size W2 W2:=Below.refl _ _;have s1:=HS.out _ r1;have s2:=HS.out _ r1.drew;clear hS hk hg lk Y1;refine wp_region_noPanic ?_;refine wp_region_held_drew (S:=(fun W=>W.cell? ⟨w.heap.size,1,none⟩=some (.slice A N c)∧W.cell? ⟨w.heap.size+1,0,none⟩=some (.string ⟨p.toArray⟩)∧W.cell? ⟨w.heap.size+1,1,none⟩=some (.int .i64 1)∧W.cell? ⟨w.heap.size+1,2,none⟩=some (.int .i64 m)∧W.cell? ⟨w.heap.size+1,3,none⟩=some (.int .i64 0)∧W.cell? ⟨w.heap.size+1,4,none⟩=some (.slice rA rN rC)∧W.cell? ⟨w.heap.size+1,5,none⟩=some (.string ⟨#[]⟩)∧W.cell? ⟨w.heap.size+1,6,none⟩=some (.string ⟨#[]⟩)∧W.cell? ⟨w.heap.size+1,7,none⟩=some (.string ⟨#[]⟩)∧W.cell? ⟨w.heap.size+1,8,none⟩=some (.bool false))) (by kernel_rfl) ?_ (fun hH0=>?_)
 ·(with_reducible exact s2)
 refine tk 0 13 hH0 ?_;refine tk 1 14 hH0 ?_;refine tk 2 15 hH0 ?_;refine tk 3 16 hH0 ?_;refine tk 4 17 hH0 ?_;refine tk 5 18 hH0 ?_;refine Zk [6] ?_;refine an 19 fun K hK=>?_
 go_simp;(
  with_reducible refine(KP.out W2.drew).mono ?_
  rintro e w4 ⟨rfl,z4⟩;have r2:Below W2.heap.size W2 w4:=Q0 r1.drew z4
  have s3:=HS.out _ r2);go_wp2_with fail
 refine hK.out _ _ ?_ (fun hH1=>?_)
 ·(with_reducible exact s3)
 clear hK K hH0
 try simp only[pu]
 refine Zk [7] ?_;refine an 20 fun K hK=>?_
 go_simp;(
  with_reducible refine(KH.out _ r2).mono ?_
  rintro e w5 ⟨rfl,z5⟩;have r3:Below W2.heap.size W2 w5:=Q0 r2 z5
  have s4:=HS.out _ r3);go_wp2_with fail
 refine hK.out _ _ ?_ (fun hH2=>?_)
 ·(with_reducible exact s4)
 clear hK K hH1
 try simp only[pu]
 refine tk 8 21 hH2 ?_;refine tk 9 22 hH2 ?_;refine tk 10 3 hH2 ?_;refine dn ?_ _
 all_goals(refine NoPanic.normal ?_)
 all_goals(
  have R3:=Kd (Y2.out.under r3).below;clear r1 r2 r3 z4 z5 s1 s2 s3 s4 HS KP KH hW2 Y2;go_wp2;go_ret
  exact⟨rfl,R3.out⟩)
theorem Oh (A:Option Addr) (c:Nat) (G:Nat→Prop) (p:Tm.Qk) (m pl:Int) (rA:Option Addr) (rN rC:Nat) (v:Value) (s:List Tm.Sp) (F:Nat→Prop) (gm b n:Nat) (M:Lit→Option Value) (w:World) (hr:Z9 w G A [.string ⟨p.toArray⟩,v]) (hm:Jd w 9 b n M) (hg:w.cell? ⟨gm,0,none⟩=some (.map (some b))) (hp:p.length≤maxLen)
 (he:M (.string p)=some (.agg #[.string ⟨p.toArray⟩,.int .i64 1,.int .i64 m,.int .i64 0,.slice rA rN rC,.string ⟨#[]⟩,.string ⟨#[]⟩,.string ⟨#[]⟩,.bool false])) (hok:Mq 1 m 0=true) (hpl:1000*m+0=pl) (hs:Qr w F v s) (hh:Tm.has s pl=true):
 Calls prog 26 #[.slice A 1 c,.func (.func 126) #[] #[.pointer (some ⟨gm,0,none⟩)]] w fun e w'=>e=.returned (.bool false)∧Below w.heap.size w w':=by
 have hl:=World.block_lt_of_cell? w _ hg;refine(Vl 126 #[.pointer (some ⟨gm,0,none⟩)] (enters_of func126 (by kernel_rfl) rfl) A 1 c (fun _=>.string ⟨p.toArray⟩) (fun _=>v) (fun _=>false) w (by decide) (fun j hj=>?_) (fun j W hj hb=>brk_spec p m pl rA rN rC v s F gm b n M W (hm.below hb) ((hb.cell hl).trans hg) hp he hok hpl (hs.below hb) hh)).mono ?_
 ·obtain rfl:j=0:=by omega
  rcases hr with hr|⟨b,off,e,-,hb,hc⟩
  ·cases hr
  ·exact⟨b,off,e,hb,hc 0 (Nat.succ_pos 1),hc 1 (Nat.lt_succ_self 1)⟩
 ·rintro e w' ⟨x,rfl,hb,ha⟩
  have:x=false:=by
   cases x
   ·rfl
   ·obtain⟨i,-,h⟩:=ha.1 rfl
    cases h
  rw[this];exact⟨rfl,hb⟩
theorem brk0_spec (A:Option Addr) (c:Nat) (gm:Nat) (w:World):
 Calls prog 26 #[.slice A 0 c,.func (.func 126) #[] #[.pointer (some ⟨gm,0,none⟩)]] w fun e w'=>e=.returned (.bool false)∧Below w.heap.size w w':=by
 refine(Vl 126 #[.pointer (some ⟨gm,0,none⟩)] (enters_of func126 (by kernel_rfl) rfl) A 0 c (fun _=>undef) (fun _=>undef) (fun _=>false) w (Nat.zero_le _) (fun j hj=>absurd hj (Nat.not_lt_zero _)) (fun j W hj hb=>absurd hj (Nat.not_lt_zero _))).mono ?_;rintro e w' ⟨x,rfl,hb,ha⟩
 have:x=false:=by
  cases x
  ·rfl
  ·obtain⟨i,-,h⟩:=ha.1 rfl
   cases h
 rw[this];exact⟨rfl,hb⟩
theorem litAB:Lit.string Qq≠Lit.string Qo:=fun h=>absurd (show Qq=Qo by injection h) (by decide)
theorem litBA:Lit.string Qo≠Lit.string Qq:=fun h=>litAB h.symm
theorem fld_rel (p:Tm.Qk) (m:Int) (A:Option Addr) (n c:Nat) (w:World):(Instr.field 46 (.agg #[.string ⟨p.toArray⟩,.int .i64 1,.int .i64 m,.int .i64 0,.slice A n c,.string ⟨#[]⟩,.string ⟨#[]⟩,.string ⟨#[]⟩,.bool false]) 2).run prog w=.ok (.slice A n c) w:=by kernel_rfl
theorem Lh (w:World):(zeroValue 4).run prog w=.ok (.bool false) w:=by kernel_rfl
theorem solves_ex (A qA iA rA sA:Option Addr) (c qC iN iC rC sC:Nat) (F:Nat→Prop) (w:World) (hx:Iv A qA rA sA c qC rC sC F w.heap.size w) (hF:∀ k,F k→k<w.heap.size):
 Calls prog 78 #[.agg #[.slice A 4 c,.slice iA iN iC],.slice rA 1 rC,.slice sA 2 sC] w fun e w'=>e=.returned (.int .i64 0)∧Below w.heap.size w w':=by
 obtain⟨_,_,M,e1,e2,-,-,hrd,hsf⟩:=id hx.2.1;obtain⟨⟨q,v⟩,rfl⟩:∃ m,M=[m]:=List.length_eq_one_iff.1 (by rw[←List.length_map (f:=Prod.fst),e1];rfl);obtain rfl:q=⟨Qq,[(0,1000000)]⟩:=by injection e1
 obtain⟨rfl,-,rfl⟩:=Value.slice.inj e2;have hsv:=hsf _ (List.mem_singleton.2 rfl);obtain⟨vA,vC,e3,-,-,-⟩:=id hsv;have e3:v=.slice vA 1 vC:=e3;subst e3;have hrd:Z9 w F rA [.string ⟨Qq.toArray⟩,.slice vA 1 vC]:=hrd;obtain⟨_,_,M2,f1,f2,-,-,hrd2,hsf2⟩:=ex_row hx.1;obtain⟨⟨q2,v2⟩,rfl⟩:∃ m,M2=[m]:=List.length_eq_one_iff.1 (by rw[←List.length_map (f:=Prod.fst),f1];rfl);obtain rfl:q2=⟨Qo,[(1000,1000000)]⟩:=by injection f1
 obtain⟨rfl,-,rfl⟩:=Value.slice.inj f2;have hsu:=hsf2 _ (List.mem_singleton.2 rfl);obtain⟨uA,uC,f3,-,-,-⟩:=id hsu;have f3:v2=.slice uA 1 uC:=f3;subst f3;have hrd2:Z9 w F qA [.string ⟨Qo.toArray⟩,.slice uA 1 uC]:=hrd2;have y0:=(St.nil w).alloc 25 #[.slice A 4 c,.slice iA iN iC];obtain⟨W0,hW0⟩:∃ W,w.alloc (.cells #[.slice A 4 c,.slice iA iN iC] 25)=W:=⟨_,rfl⟩;rw[hW0] at y0;have kt:=Yj _ _ iA iN iC F W0 (hx.1.below y0.below) (W6 _) (show 4≤1048576 by decide) (hx.2.2.2 _ y0.below) (Gv _);have x0:=y0.blk.cell 0;have x1:=y0.blk.cell 1;have HH:=Kd6 hrd hsv hrd2 hsu hx.2.2.1 hF;have Y0:=Kd y0;clear hx hF y0 e1 e2 f1 f2 hrd hsf hsv hrd2 hsf2 hsu;go_enter func78,ntmps78;go_wp2_with fail;refine kt.mono ?_;rintro e w1 ⟨b1,b2,n1,n2,M1,M2,R,rfl,hT,-,-,z1⟩;have y1:St w.heap.size w w1 ([Qa w.heap.size 25 #[.slice A 4 c,.slice iA iN iC]]++([Zw 38 b1 n1 M1,Zw 9 b2 n2 M2]++R.map Ft)):=(Y0.out.graft z1).permR List.perm_append_comm;have y2:=(y1.pk [1]).alloc 129 #[.map (some b1),.map (some b2)];have ks:=Ay qA sA qC sC b1 b2 n1 M1 _ (w1.alloc (.cells #[.map (some b1),.map (some b2)] 129)) y2.swap.mp hT (HH.out.2.2.2.2.1.keep (Qm.under y2.below HH.out.2.2.2.2.2));have Y2:=Kd y2;clear kt hT y1 y2 z1 x0 x1 Y0 hW0;go_wp2_with fail;refine ks.mono ?_;rintro e w3 ⟨lA,lC,rfl,z3⟩;have y3:St w.heap.size w w3 [Ja 9 (.slice lA 2 lC) 2 [.string ⟨Qq.toArray⟩,.int .i64 1,.int .i64 0,.int .i64 0,.slice qA 1 qC,.string ⟨#[]⟩,.string ⟨#[]⟩,.string ⟨#[]⟩,.bool false,.string ⟨Qo.toArray⟩,.int .i64 1,.int .i64 1,.int .i64 0,.slice none 0 0,.string ⟨#[]⟩,.string ⟨#[]⟩,.string ⟨#[]⟩,.bool false]]:=(Y2.out.graft z3).pk [0];obtain⟨lb,lo,rfl,-,-,-⟩:=y3.qu_cell (by decide);have y4:=(y3.mpMade 9);have y5:=y4.alloc 223 #[.map (some w3.heap.size)];simp only[World.size_alloc] at y5;have Y5:=Kd y5;have hmm:=@run_makeMap prog;clear ks z3 y3 y4 y5 Y2;go_wp2;obtain⟨gm,hgm⟩:∃ g,w3.heap.size=g:=⟨_,rfl⟩;obtain⟨gb,hgb⟩:∃ g,w3.heap.size+1=g:=⟨_,rfl⟩;obtain⟨v0,hv⟩:∃ W,(w3.alloc (.map #[] 0)).alloc (.cells #[.map (some w3.heap.size)] 223)=W:=⟨_,rfl⟩;rw[hv,hgb,hgm] at Y5;rw[hv,hgb];clear hv hgb hgm;refine wp_loop_rounds 3 ?_;rw[rounds_succ];obtain⟨_,_,e,-,-,nc⟩:=(Y5.out.pk [2]).qu_cell (by decide)
 cases e
 have r0:=nc 0 _ rfl;have r1:=nc 1 _ rfl;have r2:=nc 2 _ rfl;have r3:=nc 3 _ rfl;have r4:=nc 4 _ rfl;have r5:=nc 5 _ rfl;have r6:=nc 6 _ rfl;have r7:=nc 7 _ rfl;have r8:=nc 8 _ rfl;simp only[Nat.add_zero] at r0;clear nc;have x0:=Y5.out.blk.cell 0;have xl:=Y5.out.blk.lt;have y6:=Y5.out.alloc 46 #[.string ⟨Qq.toArray⟩,.int .i64 1,.int .i64 0,.int .i64 0,.slice qA 1 qC,.string ⟨#[]⟩,.string ⟨#[]⟩,.string ⟨#[]⟩,.bool false];obtain⟨v1,hput,y7⟩:=(y6.pk [2,0,1,3]).mput 223 J8 underlying223 (by decide) (Zb Qq (by decide)) (.agg #[.string ⟨Qq.toArray⟩,.int .i64 1,.int .i64 0,.int .i64 0,.slice qA 1 qC,.string ⟨#[]⟩,.string ⟨#[]⟩,.string ⟨#[]⟩,.bool false]);have V1:=Kd (y7.pk [2,0,3]);clear y6 y7 Y5;go_wp2;clear hput x0 xl r0 r1 r2 r3 r4 r5 r6 r7 r8;rw[rounds_succ];obtain⟨_,_,e,-,-,nc⟩:=(V1.out.pk [2]).qu_cell (by decide)
 cases e
 have r0:=nc 9 _ rfl;have r1:=nc 10 _ rfl;have r2:=nc 11 _ rfl;have r3:=nc 12 _ rfl;have r4:=nc 13 _ rfl;have r5:=nc 14 _ rfl;have r6:=nc 15 _ rfl;have r7:=nc 16 _ rfl;have r8:=nc 17 _ rfl;clear nc;have x0:=V1.out.blk.cell 0;have xl:=V1.out.blk.lt;have y6:=V1.out.alloc 46 #[.string ⟨Qo.toArray⟩,.int .i64 1,.int .i64 1,.int .i64 0,.slice none 0 0,.string ⟨#[]⟩,.string ⟨#[]⟩,.string ⟨#[]⟩,.bool false];obtain⟨v2,hput,y7⟩:=(y6.pk [2,0,1,3]).mput 223 J8 underlying223 (by decide) (Zb Qo (by decide)) (.agg #[.string ⟨Qo.toArray⟩,.int .i64 1,.int .i64 1,.int .i64 0,.slice none 0 0,.string ⟨#[]⟩,.string ⟨#[]⟩,.string ⟨#[]⟩,.bool false]);have V2:=Kd (y7.pk [2,0,3]);clear y6 y7 V1;go_wp2;clear hput x0 xl r0 r1 r2 r3 r4 r5 r6 r7 r8;have mB:(Jq (Jq (fun _=>none) (.string Qq) (.agg #[.string ⟨Qq.toArray⟩,.int .i64 1,.int .i64 0,.int .i64 0,.slice qA 1 qC,.string ⟨#[]⟩,.string ⟨#[]⟩,.string ⟨#[]⟩,.bool false])) (.string Qo) (.agg #[.string ⟨Qo.toArray⟩,.int .i64 1,.int .i64 1,.int .i64 0,.slice none 0 0,.string ⟨#[]⟩,.string ⟨#[]⟩,.string ⟨#[]⟩,.bool false])) (.string Qo)=some (.agg #[.string ⟨Qo.toArray⟩,.int .i64 1,.int .i64 1,.int .i64 0,.slice none 0 0,.string ⟨#[]⟩,.string ⟨#[]⟩,.string ⟨#[]⟩,.bool false]):=Zd _ _ _;have mA:(Jq (Jq (fun _=>none) (.string Qq) (.agg #[.string ⟨Qq.toArray⟩,.int .i64 1,.int .i64 0,.int .i64 0,.slice qA 1 qC,.string ⟨#[]⟩,.string ⟨#[]⟩,.string ⟨#[]⟩,.bool false])) (.string Qo) (.agg #[.string ⟨Qo.toArray⟩,.int .i64 1,.int .i64 1,.int .i64 0,.slice none 0 0,.string ⟨#[]⟩,.string ⟨#[]⟩,.string ⟨#[]⟩,.bool false])) (.string Qq)=some (.agg #[.string ⟨Qq.toArray⟩,.int .i64 1,.int .i64 0,.int .i64 0,.slice qA 1 qC,.string ⟨#[]⟩,.string ⟨#[]⟩,.string ⟨#[]⟩,.bool false]):=(Qz litAB).trans (Zd _ _ _);generalize (Jq (Jq (fun _=>none) (.string Qq) (.agg #[.string ⟨Qq.toArray⟩,.int .i64 1,.int .i64 0,.int .i64 0,.slice qA 1 qC,.string ⟨#[]⟩,.string ⟨#[]⟩,.string ⟨#[]⟩,.bool false])) (.string Qo) (.agg #[.string ⟨Qo.toArray⟩,.int .i64 1,.int .i64 1,.int .i64 0,.slice none 0 0,.string ⟨#[]⟩,.string ⟨#[]⟩,.string ⟨#[]⟩,.bool false]))=M at V2 mA mB;have HM:=Kd2 mA mB;clear mA mB;rw[rounds_succ];go_wp2;refine wp_loop_rounds 3 ?_;rw[rounds_succ];obtain⟨_,_,e,-,-,nc⟩:=(V2.out.pk [2]).qu_cell (by decide)
 cases e
 have r0:=nc 0 _ rfl;have r1:=nc 1 _ rfl;have r2:=nc 2 _ rfl;have r3:=nc 3 _ rfl;have r4:=nc 4 _ rfl;have r5:=nc 5 _ rfl;have r6:=nc 6 _ rfl;have r7:=nc 7 _ rfl;have r8:=nc 8 _ rfl;simp only[Nat.add_zero] at r0;clear nc;have y6:=V2.out.alloc 46 #[.string ⟨Qq.toArray⟩,.int .i64 1,.int .i64 0,.int .i64 0,.slice qA 1 qC,.string ⟨#[]⟩,.string ⟨#[]⟩,.string ⟨#[]⟩,.bool false];have kb:=Oh qA qC F Qo 1 1000 none 0 0 (.slice uA 1 uC) [(1000,1000000)] F gb gm (0+1+1) M (v2.alloc (.cells #[.string ⟨Qq.toArray⟩,.int .i64 1,.int .i64 0,.int .i64 0,.slice qA 1 qC,.string ⟨#[]⟩,.string ⟨#[]⟩,.string ⟨#[]⟩,.bool false] 46)) (HH.out.2.2.1.keep (Qm.under y6.below HH.out.2.2.2.2.2)) (y6.pk [2]).mp ((y6.pk [1]).blk.cell 0) (by decide) HM.out.2 (by decide) (by decide) (HH.out.2.2.2.1.keep (Qm.under y6.below HH.out.2.2.2.2.2)) (by decide);have Y6:=Kd y6;clear y6 V2;go_wp2_with fail;refine kb.mono ?_;rintro e w5 ⟨rfl,z6⟩;have U0:=Kd ((Y6.out.under z6).tail);clear kb z6 Y6 r0 r1 r2 r3 r4 r5 r6 r7 r8;go_wp2;rw[rounds_succ];obtain⟨_,_,e,-,-,nc⟩:=(U0.out.pk [2]).qu_cell (by decide)
 cases e
 have r0:=nc 9 _ rfl;have r1:=nc 10 _ rfl;have r2:=nc 11 _ rfl;have r3:=nc 12 _ rfl;have r4:=nc 13 _ rfl;have r5:=nc 14 _ rfl;have r6:=nc 15 _ rfl;have r7:=nc 16 _ rfl;have r8:=nc 17 _ rfl;clear nc;have y6:=U0.out.alloc 46 #[.string ⟨Qo.toArray⟩,.int .i64 1,.int .i64 1,.int .i64 0,.slice none 0 0,.string ⟨#[]⟩,.string ⟨#[]⟩,.string ⟨#[]⟩,.bool false];have kb:=brk0_spec none 0 gb (w5.alloc (.cells #[.string ⟨Qo.toArray⟩,.int .i64 1,.int .i64 1,.int .i64 0,.slice none 0 0,.string ⟨#[]⟩,.string ⟨#[]⟩,.string ⟨#[]⟩,.bool false] 46));have Y6:=Kd y6;clear y6 U0;go_wp2_with fail;refine kb.mono ?_;rintro e w6 ⟨rfl,z6⟩;have U1:=Kd ((Y6.out.under z6).tail);clear kb z6 Y6 r0 r1 r2 r3 r4 r5 r6 r7 r8;go_wp2;rw[rounds_succ];have kb:=Oh rA rC F Qq 0 0 qA 1 qC (.slice vA 1 vC) [(0,1000000)] F gb gm (0+1+1) M w6 (HH.out.1.keep (Qm.under U1.out.below HH.out.2.2.2.2.2)) (U1.out.pk [1]).mp (U1.out.blk.cell 0) (by decide) HM.out.1 (by decide) (by decide) (HH.out.2.1.keep (Qm.under U1.out.below HH.out.2.2.2.2.2)) (by decide);go_wp2_with fail;refine kb.mono ?_;rintro e w7 ⟨rfl,z7⟩;have y7:=(U1.out.under z7).mpMade 9;have kc:=Dt rA 1 rC [.string ⟨Qq.toArray⟩,.slice vA 1 vC] F (w7.alloc (.map #[] 0)) (HH.out.1.keep (Qm.under y7.below HH.out.2.2.2.2.2)) (fun u hu=>by simp at hu;rcases hu with rfl|rfl<;>rfl) rfl (by decide);have Y7:=Kd y7;clear kb z7 y7 U1;go_wp2_with fail;refine kc.mono ?_;rintro e x0 ⟨tA,tC,rfl,z8⟩;have X0:=Kd ((Y7.out.graft z8).toQu);obtain⟨gn,hgn⟩:∃ g,w7.heap.size=g:=⟨_,rfl⟩;rw[hgn] at X0 ⊢;clear kc z8 Y7 hgn;go_wp2;refine wp_loop_rounds 3 ?_;rw[rounds_succ];obtain⟨tb0,to0,rfl,-,-,nc⟩:=X0.out.qu_cell (by decide);have n0:=nc 0 _ rfl;have n1:=nc 1 _ rfl;simp only[Nat.add_zero] at n0;clear nc;obtain⟨B,hB,q1,q2⟩:=Ow 26 43 underlying26 (by decide) (fun w=>Tryz.sizeOf43 w) tb0 to0 0 tC;have q1:∀ W,(Instr.sliceAt 26 (.slice (some ⟨tb0,to0,none⟩) 1 tC) (some (.int .i64 1)) none none).run prog W=.ok (.slice B 0 (tC-1)) W:=q1;have q2:∀ W,(Instr.slice 26 (.slice (some ⟨tb0,to0,none⟩) 1 tC) (some (.int .i64 1)) none none).run prog W=.ok (.slice B 0 (tC-1)) W:=q2;have s1:=X0.out.qu_pop (n:=0) (n':=0) (A:=B) hB (ys:=[]) rfl rfl;have y2:=s1.alloc 43 #[.string ⟨Qq.toArray⟩,.slice vA 1 vC];have k1:=(y2.pk [2]).mp.look J8 underlying224 (Lh _) (Zb Qq (by decide))
 skip
 have k1:(Instr.lookup 224 (.map (some gn)) (.string ⟨Qq.toArray⟩) false).run prog (x0.alloc (.cells #[.string ⟨Qq.toArray⟩,.slice vA 1 vC] 43))=.ok (.bool false) (x0.alloc (.cells #[.string ⟨Qq.toArray⟩,.slice vA 1 vC] 43)):=k1;obtain⟨w9,hput,y3⟩:=(y2.pk [2,1,3,4,5,0]).mput 224 J8 underlying224 (by decide) (Zb Qq (by decide)) (.bool true);have k2:=(y3.pk [3]).mp.look J8 underlying223 (Ym _) (Zb Qq (by decide));rw[HM.out.1] at k2;have k2:(Instr.lookup 223 (.map (some gm)) (.string ⟨Qq.toArray⟩) false).run prog w9=.ok (.agg #[.string ⟨Qq.toArray⟩,.int .i64 1,.int .i64 0,.int .i64 0,.slice qA 1 qC,.string ⟨#[]⟩,.string ⟨#[]⟩,.string ⟨#[]⟩,.bool false]) w9:=k2;have b0:=(y3.pk [5]).blk.cell 0;have bx:=(y3.pk [2]).blk.cell 0;have RD:=Kd (HH.out.2.2.1.keep (Qm.under y3.below HH.out.2.2.2.2.2));have YC:=Kd (y3.pk [1,0,2,3,4]);have n3:0+1≤maxLen:=by decide
 have n4:(0+1)*40≤140737488355328:=by decide
 have hfl:=fld_rel;clear s1 y2 y3 X0 hB;go_wp2_with (at_builtin;go_must (refine Jw (ys:=[.string ⟨Qo.toArray⟩,.slice uA 1 uC]) (m:=1) 26 YC.out underlying26 Vy rfl RD.out rfl (by decide) (fun u hu=>by simp at hu;rcases hu with rfl|rfl<;>rfl) n3 n4 rfl _ _ rfl rfl rfl ?_);intro A1 C1 x1 h5);have X1:=Kd h5;clear h5 YC RD n3 n4 hfl k1 k2 hput b0 bx n0 n1 q1 q2;go_wp2;rw[rounds_succ];obtain⟨tb1,to1,rfl,-,-,nc⟩:=X1.out.qu_cell (by decide);have n0:=nc 0 _ rfl;have n1:=nc 1 _ rfl;simp only[Nat.add_zero] at n0;clear nc;obtain⟨B,hB,q1,q2⟩:=Ow 26 43 underlying26 (by decide) (fun w=>Tryz.sizeOf43 w) tb1 to1 0 C1;have q1:∀ W,(Instr.sliceAt 26 (.slice (some ⟨tb1,to1,none⟩) 1 C1) (some (.int .i64 1)) none none).run prog W=.ok (.slice B 0 (C1-1)) W:=q1;have q2:∀ W,(Instr.slice 26 (.slice (some ⟨tb1,to1,none⟩) 1 C1) (some (.int .i64 1)) none none).run prog W=.ok (.slice B 0 (C1-1)) W:=q2;have s1:=X1.out.qu_pop (n:=0) (n':=0) (A:=B) hB (ys:=[]) rfl rfl;have y2:=s1.alloc 43 #[.string ⟨Qo.toArray⟩,.slice uA 1 uC];have k1:=(y2.pk [2]).mp.look J8 underlying224 (Lh _) (Zb Qo (by decide));rw[Qz litBA] at k1;have k1:(Instr.lookup 224 (.map (some gn)) (.string ⟨Qo.toArray⟩) false).run prog (x1.alloc (.cells #[.string ⟨Qo.toArray⟩,.slice uA 1 uC] 43))=.ok (.bool false) (x1.alloc (.cells #[.string ⟨Qo.toArray⟩,.slice uA 1 uC] 43)):=k1;obtain⟨w9,hput,y3⟩:=(y2.pk [2,1,3,4,5,0]).mput 224 J8 underlying224 (by decide) (Zb Qo (by decide)) (.bool true);have k2:=(y3.pk [3]).mp.look J8 underlying223 (Ym _) (Zb Qo (by decide));rw[HM.out.2] at k2;have k2:(Instr.lookup 223 (.map (some gm)) (.string ⟨Qo.toArray⟩) false).run prog w9=.ok (.agg #[.string ⟨Qo.toArray⟩,.int .i64 1,.int .i64 1,.int .i64 0,.slice none 0 0,.string ⟨#[]⟩,.string ⟨#[]⟩,.string ⟨#[]⟩,.bool false]) w9:=k2;have b0:=(y3.pk [5]).blk.cell 0;have bx:=(y3.pk [2]).blk.cell 0;have RD:=Kd (Z9.nil w9 (fun _=>False) none);have YC:=Kd (y3.pk [1,0,2,3,4]);have n3:0+0≤maxLen:=by decide
 have n4:(0+0)*40≤140737488355328:=by decide
 have hfl:=fld_rel;clear s1 y2 y3 X1 hB;go_wp2_with (at_builtin;go_must (refine Jw (ys:=[]) (m:=0) 26 YC.out underlying26 Vy rfl RD.out rfl (by decide) (fun u hu=>by cases hu) n3 n4 rfl _ _ rfl rfl rfl ?_);intro A2 C2 x2 h5);have X2:=Kd h5;clear h5 YC RD n3 n4 hfl k1 k2 hput b0 bx n0 n1 q1 q2;go_wp2;rw[rounds_succ];obtain⟨cn,hc1,-,hlen⟩:=Jd.two (p:=Qq) (q:=Qo) (X2.out.pk [1]).mp underlying224 (by rw[Qz litAB,Zd];rfl) (by rw[Zd];rfl) (by decide);have i1:¬(cn<2):=by omega
 have i2:¬((cn:Int)<2):=by omega
 have i3:decide ((cn:Int)<2)=false:=decide_eq_false i2;have X9:=Kd X2.out.below;clear X2 hc1;go_wp2;go_ret;exact⟨rfl,X9.out⟩
theorem Iv.at {A qA rA sA:Option Addr} {c qC rC sC:Nat} {F:Nat→Prop} {lo:Nat} {w0 W:World} (h:Iv A qA rA sA c qC rC sC F lo w0) (hF:∀ k,F k→k<lo) (hb:Below lo w0 W) (hl:lo≤W.heap.size):Iv A qA rA sA c qC rC sC F W.heap.size W:=
 ⟨h.1.keep (Qm.under hb hF),h.2.1.keep (Qm.under hb hF),h.2.2.1.keep (Qm.under hb hF),fun W' hW=>h.2.2.2 W' (hb.trans (hW.mono hl))⟩
theorem pcheck_ex (A qA iA rA sA jA kA:Option Addr) (c qC iN iC rC sC jC kC:Nat) (F:Nat→Prop) (w:World) (hx:Iv A qA rA sA c qC rC sC F w.heap.size w) (hj:Z9 w F jA (exI.flatMap Xj)) (hF:∀ k,F k→k<w.heap.size):
 Calls prog 40 #[.agg #[.slice A 4 c,.slice iA iN iC],.slice rA 1 rC,.agg #[.bool true,.slice sA 2 sC,.slice jA 1 jC,.slice kA 0 kC]] w fun e w'=>e=.returned (.int .i64 0)∧Below w.heap.size w w':=by
 have y0:=((St.nil w).alloc 25 #[.slice A 4 c,.slice iA iN iC]).alloc 75 #[.bool true,.slice sA 2 sC,.slice jA 1 jC,.slice kA 0 kC];simp only[World.size_alloc] at y0;obtain⟨W0,hW0⟩:∃ W,(w.alloc (.cells #[.slice A 4 c,.slice iA iN iC] 25)).alloc (.cells #[.bool true,.slice sA 2 sC,.slice jA 1 jC,.slice kA 0 kC] 75)=W:=⟨_,rfl⟩;rw[hW0] at y0;have hx0:=hx.at hF y0.below y0.size;have kn:=M8 A qA iA rA jA c qC iN iC rC jC F W0 hx0.1 hx0.2.1 (hj.keep (Qm.under y0.below hF)) (hx0.2.2.2 _ (Below.refl _ _));have x0:=(y0.pk [1]).blk.cell 0;have x1:=(y0.pk [1]).blk.cell 1;have x2:=y0.blk.cell 2;have Y0:=Kd y0;have HH:=Kd2 hx hF;clear hx hF hj hx0 y0;go_enter func40,ntmps40;go_wp2_with fail;refine kn.mono ?_;rintro e w1 ⟨gc,dA,dC,rfl,z1⟩;have y1:=(Y0.out.graft z1).alloc 158 #[.pointer (some ⟨gc,0,none⟩)];have x0':=((Y0.out.graft z1).pk [2]).blk.cell 0;have x1':=((Y0.out.graft z1).pk [2]).blk.cell 1;have xl:=((Y0.out.graft z1).pk [2]).blk.lt;have a0:=((Y0.out.graft z1).pk [1]).blk.cell 0;have a1:=((Y0.out.graft z1).pk [1]).blk.cell 1;have al:=((Y0.out.graft z1).pk [1]).blk.lt;have ks:=solves_ex A qA iA rA sA c qC iN iC rC sC F (w1.alloc (.cells #[.pointer (some ⟨gc,0,none⟩)] 158)) (HH.out.1.at HH.out.2 y1.below y1.size) (fun k hk=>Nat.lt_of_lt_of_le (HH.out.2 k hk) y1.size);have Y1:=Kd y1;clear kn z1 x0 x1 x2 y1 Y0 hW0;go_wp2_with fail;refine ks.mono ?_;rintro e w2 ⟨rfl,z2⟩;have y2:=Y1.out.under z2;have y3:=(y2.alloc 4 #[.bool true]).alloc 49 #[.slice kA 0 kC];simp only[World.size_alloc] at y3;have a3:=(y2.pk [2]).blk.cell 3;have a1':=(y2.pk [2]).blk.cell 1;have al':=(y2.pk [2]).blk.lt;have p0:=y2.blk.cell 0;have pl:=y2.blk.lt;have pl2:=Nat.lt_succ_of_lt pl;have al2:=Nat.lt_succ_of_lt al';have kd:=decide_ex A qA iA rA sA kA dA c qC iN iC rC sC kC dC gc w1.heap.size (w2.heap.size+1) w2.heap.size w.heap.size F w _ HH.out.1 HH.out.2 (y3.pk [1,0,2,3]);clear ks z2 x0' x1' xl a0 a1 al y2 y3 Y1;go_wp2_with fail;refine kd.mono ?_;rintro e w4 ⟨rfl,y4⟩;have c5:=y4.blk.cell 0;have c4:=(y4.pk [1]).blk.cell 0;have Y4:=Kd y4.below;clear kd y4 a3 a1' al' p0 pl pl2 al2;go_wp2;go_ret;exact⟨rfl,Y4.out⟩
theorem Iv.all {A qA rA sA:Option Addr} {c qC rC sC:Nat} {F G:Nat→Prop} {w:World} (h:Qx w F (.slice A 4 c) (Jl (.slice qA 1 qC))) (hr:Qt w F (.slice rA 1 rC) Bk) (hs:Z9 w G sA (exS.flatMap Wm)) (hg:Ji w):Iv A qA rA sA c qC rC sC (fun k=>k<w.heap.size) w.heap.size w:=
 ⟨h.ltR.mono fun k hk=>hk.2,by
   obtain⟨A',c',M,e1,e2,h1,h2,h3,h4⟩:=hr
   exact⟨A',c',M,e1,e2,h1,h2,h3.ltR.mono fun k hk=>hk.2,fun m hm=>(h4 m hm).lt.mono fun k hk=>hk.2⟩,hs.ltR.mono fun k hk=>hk.2,fun W hW=>hg.below hW⟩
theorem verify_ex (A qA iA rA eA jA kA:Option Addr) (c qC iN iC rC eC jC kC:Nat) (F:Nat→Prop) (w:World) (h:Qx w F (.slice A 4 c) (Jl (.slice qA 1 qC))) (hr:Qt w F (.slice rA 1 rC) Bk) (he:Z9 w F eA (exL.flatMap enC)) (hj:Z9 w F jA (exI.flatMap Xj)) (hg:Ji w):
 Calls prog 16 #[.agg #[.slice A 4 c,.slice iA iN iC],.agg #[.slice rA 1 rC,.slice eA 2 eC,.slice jA 1 jC,.slice kA 0 kC]] w fun e w'=>e=.returned (.int .i64 0)∧Below w.heap.size w w':=by
 have y0:=((St.nil w).alloc 25 #[.slice A 4 c,.slice iA iN iC]).alloc 51 #[.slice rA 1 rC,.slice eA 2 eC,.slice jA 1 jC,.slice kA 0 kC];simp only[World.size_alloc] at y0;obtain⟨W0,hW0⟩:∃ W,(w.alloc (.cells #[.slice A 4 c,.slice iA iN iC] 25)).alloc (.cells #[.slice rA 1 rC,.slice eA 2 eC,.slice jA 1 jC,.slice kA 0 kC] 51)=W:=⟨_,rfl⟩;rw[hW0] at y0;have k1:=Vk _ _ (.slice iA iN iC) F W0 (h.below y0.below) (W6 _) rfl (hg.below y0.below);rw[Gv] at k1;have x0:=(y0.pk [1]).blk.cell 0;have x1:=(y0.pk [1]).blk.cell 1;have Y0:=Kd y0;have HH:=Kd5 h hr he hj hg;clear h hr he hj hg y0;go_enter func16,ntmps16;go_wp2_with fail;refine k1.mono ?_;rintro e w1 ⟨rfl,z1⟩;have y1:=Y0.out.under z1;obtain⟨q0,-,q1,-,q2,-,q3,-⟩:=bk4 y1.blk;have k2:=formed_ex rA eA jA kA rC eC jC kC F w1 (HH.out.2.1.below y1.below) (HH.out.2.2.1.below y1.below) (HH.out.2.2.2.1.below y1.below) (HH.out.2.2.2.2.below y1.below);have Y1:=Kd y1;clear k1 x0 x1 z1 y1 Y0 hW0;go_wp2_with fail;refine k2.mono ?_;rintro e v0 ⟨rfl,z2⟩;have V0:=Kd ((Y1.out.under z2).quNil 9 46);have q1:=(V0.out.pk [1]).blk.cell 1;clear k2 z2 Y1 q0 q2 q3;go_wp2;clear q1;refine wp_loop_rounds 3 ?_;rw[rounds_succ];obtain⟨eb0,eo0,e,-,s0,s1,s2,s3,s4,s5⟩:=V6 (HH.out.2.2.1.below V0.out.below) (j:=0) (show 0<2 by decide);subst e;replace s0:_=some (Value.string ⟨Qq.toArray⟩):=s0;replace s1:_=some (Value.int .i64 1):=s1;replace s2:_=some (Value.int .i64 0):=s2;replace s3:_=some (Value.int .i64 0):=s3;replace s4:_=some (Value.string ⟨#[]⟩):=s4;replace s5:_=some (Value.string ⟨#[]⟩):=s5;simp only[Nat.zero_mul,Nat.add_zero] at s0 s1 s2 s3 s4 s5;have y2:=V0.out.alloc 84 #[.string ⟨Qq.toArray⟩,.int .i64 1,.int .i64 0,.int .i64 0,.string ⟨#[]⟩,.string ⟨#[]⟩];have kf:=Dm A qA iA c qC iN iC F (v0.alloc (.cells #[.string ⟨Qq.toArray⟩,.int .i64 1,.int .i64 0,.int .i64 0,.string ⟨#[]⟩,.string ⟨#[]⟩] 84)) (HH.out.1.below y2.below) (HH.out.2.2.2.2.below y2.below);have x0:=(V0.out.pk [2]).blk.cell 0;have x1:=(V0.out.pk [2]).blk.cell 1;have xl:=(V0.out.pk [2]).blk.lt;have Y2:=Kd y2;clear y2 V0;go_wp2_with fail;refine kf.mono ?_;rintro e w5 ⟨fA0,fC0,rfl,z5,-⟩;have y3:=((Y2.out.under z5).alloc 46 #[.string ⟨Qq.toArray⟩,.int .i64 1,.int .i64 0,.int .i64 0,.slice fA0 1 fC0,.string ⟨#[]⟩,.string ⟨#[]⟩,.string ⟨#[]⟩,.bool false]).alloc 46 #[.string ⟨Qq.toArray⟩,.int .i64 1,.int .i64 0,.int .i64 0,.slice fA0 1 fC0,.string ⟨#[]⟩,.string ⟨#[]⟩,.string ⟨#[]⟩,.bool false];have hrd:=y3.blkRd;simp only[World.size_alloc] at hrd;have HRD:=Kd hrd;have YC:=Kd (y3.pk [3,4,5]);have hone:∀ u∈([.string ⟨Qq.toArray⟩,.int .i64 1,.int .i64 0,.int .i64 0,.slice fA0 1 fC0,.string ⟨#[]⟩,.string ⟨#[]⟩,.string ⟨#[]⟩,.bool false]:List Value),u.oneCell'=true:=fun u hu=>by simp at hu;rcases hu with rfl|rfl|rfl|rfl|rfl|rfl|rfl|rfl|rfl<;>rfl
 have n1:0+1≤maxLen:=by decide
 have n2:(0+1)*120≤140737488355328:=by decide
 clear kf z5 y3 hrd Y2 s0 s1 s2 s3 s4 s5 x0 x1 xl;go_wp2_with (at_builtin;go_must (refine Jw 22 YC.out underlying22 Yr rfl HRD.out rfl (by decide) hone n1 n2 rfl _ _ rfl rfl rfl ?_);intro A0 C0 v1 h5);have V1:=Kd h5;clear h5 YC HRD hone n1 n2;go_wp2;rw[rounds_succ];obtain⟨eb1,eo1,e,-,s0,s1,s2,s3,s4,s5⟩:=V6 (HH.out.2.2.1.below V1.out.below) (j:=1) (show 1<2 by decide)
 cases e
 replace s0:_=some (Value.string ⟨Qo.toArray⟩):=s0;replace s1:_=some (Value.int .i64 1):=s1;replace s2:_=some (Value.int .i64 1):=s2;replace s3:_=some (Value.int .i64 0):=s3;replace s4:_=some (Value.string ⟨#[]⟩):=s4;replace s5:_=some (Value.string ⟨#[]⟩):=s5;simp only[Nat.one_mul,Nat.add_assoc,Nat.reduceAdd] at s0 s1 s2 s3 s4 s5;have y2:=V1.out.alloc 84 #[.string ⟨Qo.toArray⟩,.int .i64 1,.int .i64 1,.int .i64 0,.string ⟨#[]⟩,.string ⟨#[]⟩];have kf:=Dl A qA iA c qC iN iC 1 (.inr (.inl rfl)) F (v1.alloc (.cells #[.string ⟨Qo.toArray⟩,.int .i64 1,.int .i64 1,.int .i64 0,.string ⟨#[]⟩,.string ⟨#[]⟩] 84)) (HH.out.1.below y2.below) (HH.out.2.2.2.2.below y2.below);have x0:=(V1.out.pk [2]).blk.cell 0;have x1:=(V1.out.pk [2]).blk.cell 1;have xl:=(V1.out.pk [2]).blk.lt;have Y2:=Kd y2;clear y2 V1;go_wp2_with fail;refine kf.mono ?_;rintro e w5 ⟨fA1,fC1,rfl,z5⟩;have y3:=((Y2.out.under z5).alloc 46 #[.string ⟨Qo.toArray⟩,.int .i64 1,.int .i64 1,.int .i64 0,.slice fA1 0 fC1,.string ⟨#[]⟩,.string ⟨#[]⟩,.string ⟨#[]⟩,.bool false]).alloc 46 #[.string ⟨Qo.toArray⟩,.int .i64 1,.int .i64 1,.int .i64 0,.slice fA1 0 fC1,.string ⟨#[]⟩,.string ⟨#[]⟩,.string ⟨#[]⟩,.bool false];have hrd:=y3.blkRd;simp only[World.size_alloc] at hrd;have HRD:=Kd hrd;have YC:=Kd (y3.pk [3,4,5]);have hone:∀ u∈([.string ⟨Qo.toArray⟩,.int .i64 1,.int .i64 1,.int .i64 0,.slice fA1 0 fC1,.string ⟨#[]⟩,.string ⟨#[]⟩,.string ⟨#[]⟩,.bool false]:List Value),u.oneCell'=true:=fun u hu=>by simp at hu;rcases hu with rfl|rfl|rfl|rfl|rfl|rfl|rfl|rfl|rfl<;>rfl
 have n1:1+1≤maxLen:=by decide
 have n2:(1+1)*120≤140737488355328:=by decide
 clear kf z5 y3 hrd Y2 s0 s1 s2 s3 s4 s5 x0 x1 xl;go_wp2_with (at_builtin;go_must (refine Jw 22 YC.out underlying22 Yr rfl HRD.out rfl (by decide) hone n1 n2 rfl _ _ rfl rfl rfl ?_);intro A1 C1 v2 h5);have V2:=Kd h5;clear h5 YC HRD hone n1 n2;go_wp2;rw[rounds_succ];have q1:=(V2.out.pk [1]).blk.cell 1;obtain⟨fb,fo,rfl,-,-,-⟩:=V2.out.qu_cell (by decide);go_wp2;clear q1;refine wp_loop_rounds 3 ?_;rw[rounds_succ];obtain⟨_,_,e,-,s0,s1,s2,s3,s4,s5⟩:=V6 (HH.out.2.2.1.below V2.out.below) (j:=0) (show 0<2 by decide)
 cases e
 replace s0:_=some (Value.string ⟨Qq.toArray⟩):=s0;replace s1:_=some (Value.int .i64 1):=s1;replace s2:_=some (Value.int .i64 0):=s2;replace s3:_=some (Value.int .i64 0):=s3;replace s4:_=some (Value.string ⟨#[]⟩):=s4;replace s5:_=some (Value.string ⟨#[]⟩):=s5;simp only[Nat.zero_mul,Nat.add_zero] at s0 s1 s2 s3 s4 s5;have y2:=V2.out.alloc 84 #[.string ⟨Qq.toArray⟩,.int .i64 1,.int .i64 0,.int .i64 0,.string ⟨#[]⟩,.string ⟨#[]⟩]
 have hc:∀ W',St w.heap.size w W' [Qa v2.heap.size 84 #[.string ⟨Qq.toArray⟩,.int .i64 1,.int .i64 0,.int .i64 0,.string ⟨#[]⟩,.string ⟨#[]⟩],Ja 9 (.slice (some ⟨fb,fo,none⟩) (1+1) C1) (1+1) ([]++[.string ⟨Qq.toArray⟩,.int .i64 1,.int .i64 0,.int .i64 0,.slice fA0 1 fC0,.string ⟨#[]⟩,.string ⟨#[]⟩,.string ⟨#[]⟩,.bool false]++[.string ⟨Qo.toArray⟩,.int .i64 1,.int .i64 1,.int .i64 0,.slice fA1 0 fC1,.string ⟨#[]⟩,.string ⟨#[]⟩,.string ⟨#[]⟩,.bool false])]→W'.cell? ⟨v2.heap.size,4,none⟩=some (.string ⟨#[]⟩)∧W'.cell? ⟨v2.heap.size,5,none⟩=some (.string ⟨#[]⟩)∧W'.cell? ⟨fb,fo+5,none⟩=some (.string ⟨#[]⟩)∧W'.cell? ⟨fb,fo+6,none⟩=some (.string ⟨#[]⟩):=fun W' y=>by
  obtain⟨_,_,e,-,-,nc⟩:=y.tail.qu_cell (by decide)
  cases e
  exact⟨y.blk.cell 4,y.blk.cell 5,nc 5 _ rfl,nc 6 _ rfl⟩
 have F1:=Kd (hc _ (y2.pk [0,1]));have F2:=Kd (hc _ (y2.drew.pk [0,1]));have U0:=Kd y2.drew.tail;clear hc y2 V2;go_wp2_with fail;clear s0 s1 s2 s3 s4 s5;refine wp_region_noPanic ?_;refine wp_region_held_drew (S:=(fun W'=>W'.cell? ⟨v2.heap.size,4,none⟩=some (.string ⟨#[]⟩)∧W'.cell? ⟨v2.heap.size,5,none⟩=some (.string ⟨#[]⟩)∧W'.cell? ⟨fb,fo+5,none⟩=some (.string ⟨#[]⟩)∧W'.cell? ⟨fb,fo+6,none⟩=some (.string ⟨#[]⟩))) (by kernel_rfl) ?_ (fun hH0=>?_)
 ·exact F1.out
 refine tk 0 51 hH0 ?_;refine tk 1 52 hH0 ?_;refine tk 2 53 hH0 ?_;refine tk 3 54 hH0 ?_;refine tk 4 55 hH0 ?_;refine tk 5 56 hH0 ?_;refine tk 6 57 hH0 ?_;refine tk 7 58 hH0 ?_;refine tk 8 59 hH0 ?_;refine tk 9 60 hH0 ?_;refine tk 10 61 hH0 ?_;refine tk 11 62 hH0 ?_;refine tk 12 63 hH0 ?_;refine tk 13 64 hH0 ?_;refine tk 14 65 hH0 ?_;refine tk 15 66 hH0 ?_;refine tk 16 67 hH0 ?_;refine tk 17 68 hH0 ?_;refine dn ?_ _
 all_goals(refine NoPanic.normal ?_)
 obtain⟨u0,hv⟩:∃ W,(v2.alloc (.cells #[.string ⟨Qq.toArray⟩,.int .i64 1,.int .i64 0,.int .i64 0,.string ⟨#[]⟩,.string ⟨#[]⟩] 84)).drew=W:=⟨_,rfl⟩;rw[hv] at U0;clear F1 F2;go_wp2;clear hv;rw[rounds_succ];obtain⟨_,_,e,-,s0,s1,s2,s3,s4,s5⟩:=V6 (HH.out.2.2.1.below U0.out.below) (j:=1) (show 1<2 by decide)
 cases e
 replace s0:_=some (Value.string ⟨Qo.toArray⟩):=s0;replace s1:_=some (Value.int .i64 1):=s1;replace s2:_=some (Value.int .i64 1):=s2;replace s3:_=some (Value.int .i64 0):=s3;replace s4:_=some (Value.string ⟨#[]⟩):=s4;replace s5:_=some (Value.string ⟨#[]⟩):=s5;simp only[Nat.one_mul,Nat.add_assoc,Nat.reduceAdd] at s0 s1 s2 s3 s4 s5;have y2:=U0.out.alloc 84 #[.string ⟨Qo.toArray⟩,.int .i64 1,.int .i64 1,.int .i64 0,.string ⟨#[]⟩,.string ⟨#[]⟩]
 have hc:∀ W',St w.heap.size w W' [Qa u0.heap.size 84 #[.string ⟨Qo.toArray⟩,.int .i64 1,.int .i64 1,.int .i64 0,.string ⟨#[]⟩,.string ⟨#[]⟩],Ja 9 (.slice (some ⟨fb,fo,none⟩) (1+1) C1) (1+1) ([]++[.string ⟨Qq.toArray⟩,.int .i64 1,.int .i64 0,.int .i64 0,.slice fA0 1 fC0,.string ⟨#[]⟩,.string ⟨#[]⟩,.string ⟨#[]⟩,.bool false]++[.string ⟨Qo.toArray⟩,.int .i64 1,.int .i64 1,.int .i64 0,.slice fA1 0 fC1,.string ⟨#[]⟩,.string ⟨#[]⟩,.string ⟨#[]⟩,.bool false])]→W'.cell? ⟨u0.heap.size,4,none⟩=some (.string ⟨#[]⟩)∧W'.cell? ⟨u0.heap.size,5,none⟩=some (.string ⟨#[]⟩)∧W'.cell? ⟨fb,fo+14,none⟩=some (.string ⟨#[]⟩)∧W'.cell? ⟨fb,fo+15,none⟩=some (.string ⟨#[]⟩):=fun W' y=>by
  obtain⟨_,_,e,-,-,nc⟩:=y.tail.qu_cell (by decide)
  cases e
  exact⟨y.blk.cell 4,y.blk.cell 5,nc 14 _ rfl,nc 15 _ rfl⟩
 have F1:=Kd (hc _ (y2.pk [0,1]));have F2:=Kd (hc _ (y2.drew.pk [0,1]));have U1:=Kd y2.drew.tail;clear hc y2 U0;go_wp2_with fail;clear s0 s1 s2 s3 s4 s5;refine wp_region_noPanic ?_;refine wp_region_held_drew (S:=(fun W'=>W'.cell? ⟨u0.heap.size,4,none⟩=some (.string ⟨#[]⟩)∧W'.cell? ⟨u0.heap.size,5,none⟩=some (.string ⟨#[]⟩)∧W'.cell? ⟨fb,fo+14,none⟩=some (.string ⟨#[]⟩)∧W'.cell? ⟨fb,fo+15,none⟩=some (.string ⟨#[]⟩))) (by kernel_rfl) ?_ (fun hH0=>?_)
 ·exact F1.out
 refine tk 0 51 hH0 ?_;refine tk 1 52 hH0 ?_;refine tk 2 53 hH0 ?_;refine tk 3 54 hH0 ?_;refine tk 4 55 hH0 ?_;refine tk 5 56 hH0 ?_;refine tk 6 57 hH0 ?_;refine tk 7 58 hH0 ?_;refine tk 8 59 hH0 ?_;refine tk 9 60 hH0 ?_;refine tk 10 61 hH0 ?_;refine tk 11 62 hH0 ?_;refine tk 12 63 hH0 ?_;refine tk 13 64 hH0 ?_;refine tk 14 65 hH0 ?_;refine tk 15 66 hH0 ?_;refine tk 16 67 hH0 ?_;refine tk 17 68 hH0 ?_;refine dn ?_ _
 all_goals(refine NoPanic.normal ?_)
 obtain⟨u1,hv⟩:∃ W,(u0.alloc (.cells #[.string ⟨Qo.toArray⟩,.int .i64 1,.int .i64 1,.int .i64 0,.string ⟨#[]⟩,.string ⟨#[]⟩] 84)).drew=W:=⟨_,rfl⟩;rw[hv] at U1;clear F1 F2;go_wp2;clear hv;rw[rounds_succ];go_wp2_with fail;have hS:∀ W',Below u1.heap.size u1 W'→W'.cell? ⟨w.heap.size,0,none⟩=some (.slice A 4 c)∧W'.cell? ⟨w.heap.size,1,none⟩=some (.slice iA iN iC)∧W'.cell? ⟨w.heap.size+1,0,none⟩=some (.slice rA 1 rC)∧W'.cell? ⟨w.heap.size+1,1,none⟩=some (.slice (some ⟨eb0,eo0,none⟩) 2 eC)∧W'.cell? ⟨w.heap.size+1,2,none⟩=some (.slice jA 1 jC)∧W'.cell? ⟨w.heap.size+1,3,none⟩=some (.slice kA 0 kC):=fun W' z=>by have y:=U1.out.under z;have bx:=(y.pk [2]).blk;have bl:=(y.pk [1]).blk;exact⟨bx.cell 0,bx.cell 1,bl.cell 0,bl.cell 1,bl.cell 2,bl.cell 3⟩
 have HS:=Kd hS;have r1:Below u1.heap.size u1 u1:=Below.refl _ _;have s1:=HS.out _ r1;have s2:=HS.out _ r1.drew;clear hS;have ka:Calls prog 41 #[.agg #[.slice rA 1 rC,.slice (some ⟨eb0,eo0,none⟩) 2 eC,.slice jA 1 jC,.slice kA 0 kC]] u1.drew fun e w'=>∃ A c,e=.returned (.agg #[.bool true,.slice A 2 c,.slice jA 1 jC,.slice kA 0 kC])∧St u1.drew.heap.size u1.drew w' [Ja 4 (.slice A 2 c) 2 (exS.flatMap Wm)]:=lans_spec exL (.slice rA 1 rC) (some ⟨eb0,eo0,none⟩) eC F rA jA kA 1 1 0 rC jC kC u1.drew (HH.out.2.2.1.below U1.out.drew.below) (show 2≤1048576 by decide);refine wp_region_noPanic ?_;refine wp_region_held_drew (S:=(fun W'=>W'.cell? ⟨w.heap.size,0,none⟩=some (.slice A 4 c)∧W'.cell? ⟨w.heap.size,1,none⟩=some (.slice iA iN iC)∧W'.cell? ⟨w.heap.size+1,0,none⟩=some (.slice rA 1 rC)∧W'.cell? ⟨w.heap.size+1,1,none⟩=some (.slice (some ⟨eb0,eo0,none⟩) 2 eC)∧W'.cell? ⟨w.heap.size+1,2,none⟩=some (.slice jA 1 jC)∧W'.cell? ⟨w.heap.size+1,3,none⟩=some (.slice kA 0 kC))) (by kernel_rfl) ?_ (fun hH0=>?_)
 ·(with_reducible exact s2)
 refine tk 0 70 hH0 ?_;refine tk 1 71 hH0 ?_;refine tk 2 72 hH0 ?_;refine tk 3 73 hH0 ?_;refine Zk [4] ?_;refine an 74 fun K hK=>?_
 go_simp;(
  with_reducible refine ka.mono ?_
  rintro e w4 ⟨sA,sC,rfl,z4⟩;have r2:Below u1.heap.size u1 w4:=Q0 r1.drew z4.below;have s3:=HS.out _ r2;have hx:=Iv.all (sC:=sC) (HH.out.1.below (U1.out.under r2).below) (HH.out.2.1.below (U1.out.under r2).below) (z4.quRd rfl) (HH.out.2.2.2.2.below (U1.out.under r2).below)
  have kq:=pcheck_ex A qA iA rA sA jA kA c qC iN iC rC sC jC kC _ w4 hx ((HH.out.2.2.2.1.below (U1.out.under r2).below).ltR.mono fun k hk=>hk.2) (fun k hk=>hk));go_wp2_with fail
 refine hK.out _ _ ?_ (fun hH1=>?_)
 ·(with_reducible exact s3)
 clear hK K hH0
 try simp only[pu]
 refine Zk [5] ?_;refine an 75 fun K hK=>?_
 go_simp;(
  with_reducible refine kq.mono ?_
  rintro e w5 ⟨rfl,z5⟩;have r3:Below u1.heap.size u1 w5:=Q0 r2 z5
  have s4:=HS.out _ r3);go_wp2_with fail
 refine hK.out _ _ ?_ (fun hH2=>?_)
 ·(with_reducible exact s4)
 clear hK K hH1
 try simp only[pu]
 refine tk 6 76 hH2 ?_;refine dn ?_ _
 all_goals(refine NoPanic.normal ?_)
 all_goals(
  have R3:=Kd (U1.out.under r3).below;clear r1 r2 r3 z4 z5 s1 s2 s3 s4 HS hx kq ka U1;go_wp2;go_ret
  exact⟨rfl,R3.out⟩)
def Ke (m:Int):List Zy:=[(Qq,1,0,0),(Qo,1,m,0)]
theorem Wb {m:Int} {w:World} {F:Nat→Prop} {A:Option Addr} (h:Z9 w F A ((Ke m).flatMap Wm)):∃ b off,A=some ⟨b,off,none⟩∧F b∧b<w.heap.size∧w.cell? ⟨b,off,none⟩=some (.string ⟨Qq.toArray⟩)∧w.cell? ⟨b,off+1,none⟩=some (.int .i64 1)∧w.cell? ⟨b,off+2,none⟩=some (.int .i64 0)∧w.cell? ⟨b,off+3,none⟩=some (.int .i64 0)∧w.cell? ⟨b,off+4,none⟩=some (.string ⟨Qo.toArray⟩)∧w.cell? ⟨b,off+5,none⟩=some (.int .i64 1)∧w.cell? ⟨b,off+6,none⟩=some (.int .i64 m)∧w.cell? ⟨b,off+7,none⟩=some (.int .i64 0):=by
 have h:Z9 w F A [.string ⟨Qq.toArray⟩,.int .i64 1,.int .i64 0,.int .i64 0,.string ⟨Qo.toArray⟩,.int .i64 1,.int .i64 m,.int .i64 0]:=h;rcases h with h|⟨b,off,e,hF,hb,hc⟩
 ·cases h
 ·exact⟨b,off,e,hF,hb,hc 0 (show 0<8 by decide),hc 1 (show 1<8 by decide),hc 2 (show 2<8 by decide),hc 3 (show 3<8 by decide),hc 4 (show 4<8 by decide),hc 5 (show 5<8 by decide),hc 6 (show 6<8 by decide),hc 7 (show 7<8 by decide)⟩
theorem Pb (sA:Option Addr) (sC:Nat) (m pl:Int) (hm:Mq 1 m 0=true) (hpl:1000*m+0=pl) (F:Nat→Prop) (w:World) (hs:Z9 w F sA ((Ke m).flatMap Wm)):
 Calls prog 217 #[.slice sA 2 sC] w fun e w'=>∃ b n M,e=.returned (.tuple #[.map (some b),.bool true])∧M (.string Qq)=some (.int .i64 0)∧M (.string Qo)=some (.int .i64 pl)∧St w.heap.size w w' [Zw 9 b n M]:=by
 obtain⟨sb,so,rfl,-,-⟩:=Wb hs;have kp:∀ W,(Calls prog 91 #[.agg #[.int .i64 1,.int .i64 0,.int .i64 0]] W fun e w'=>e=.returned (.tuple #[.int .i64 0,.int .i64 0])∧Below W.heap.size W w')∧(Calls prog 91 #[.agg #[.int .i64 1,.int .i64 m,.int .i64 0]] W fun e w'=>e=.returned (.tuple #[.int .i64 pl,.int .i64 0])∧Below W.heap.size W w'):=fun W=>by rw[←hpl];exact⟨Z6 1 0 0 W (by decide),Z6 1 m 0 W hm⟩
 have KP:=Kd kp;have HS:=Kd hs;have V0:=Kd ((St.nil w).mpMade 9);have hmm:=@run_makeMap prog;clear kp hs hm hpl;go_enter func217,ntmps217;go_wp2;obtain⟨v0,hv⟩:∃ W,w.alloc (.map #[] 0)=W:=⟨_,rfl⟩;rw[hv] at V0 ⊢;clear hv hmm;refine wp_loop_rounds 3 ?_;rw[rounds_succ];obtain⟨_,_,e,-,-,r0,r1,r2,r3,r4,r5,r6,r7⟩:=Wb (HS.out.below V0.out.below)
 cases e
 have y2:=V0.out.alloc 38 #[.string ⟨Qq.toArray⟩,.int .i64 1,.int .i64 0,.int .i64 0];have kq:=(KP.out (v0.alloc (.cells #[.string ⟨Qq.toArray⟩,.int .i64 1,.int .i64 0,.int .i64 0] 38))).1;have Y2:=Kd y2;clear y2 V0;go_wp2_with fail;refine kq.mono ?_;rintro e w2 ⟨rfl,z5⟩;have y3:=Y2.out.under z5;obtain⟨bx,hbx⟩:∃ g,v0.heap.size=g:=⟨_,rfl⟩;rw[hbx] at y3 ⊢
 have hc:∀ W',St w.heap.size w W' [Qa bx 38 #[.string ⟨Qq.toArray⟩,.int .i64 1,.int .i64 0,.int .i64 0]]→W'.cell? ⟨bx,0,none⟩=some (.string ⟨Qq.toArray⟩)∧W'.cell? ⟨sb,so,none⟩=some (.string ⟨Qq.toArray⟩):=fun W' y=>by
  obtain⟨_,_,e,-,-,q0,-⟩:=Wb (HS.out.below y.below)
  cases e
  exact⟨y.blk.cell 0,q0⟩
 have F1:=Kd (hc _ (y3.pk [0]));have F2:=Kd (hc _ (y3.drew.pk [0]));have b0:w2.drew.cell? ⟨bx,0,none⟩=some (.string ⟨Qq.toArray⟩):=(hc _ (y3.drew.pk [0])).1;have b1:w2.cell? ⟨bx,0,none⟩=some (.string ⟨Qq.toArray⟩):=(hc _ (y3.pk [0])).1;obtain⟨v1,hput,y4⟩:=(y3.drew.pk [1]).mput 169 J8 underlying169 (by decide) (Zb Qq (by decide)) (.int .i64 0);have V1:=Kd y4;clear hc y3 y4 kq z5 Y2 hbx r0 r1 r2 r3 r4 r5 r6 r7;go_wp2_with fail;refine wp_region_noPanic ?_;refine wp_region_held_drew (S:=(fun W'=>W'.cell? ⟨bx,0,none⟩=some (.string ⟨Qq.toArray⟩)∧W'.cell? ⟨sb,so,none⟩=some (.string ⟨Qq.toArray⟩))) (by kernel_rfl) ?_ (fun hH0=>?_)
 ·exact F1.out
 refine tk 0 23 hH0 ?_;refine tk 1 24 hH0 ?_;refine tk 2 25 hH0 ?_;refine tk 3 26 hH0 ?_;refine tk 4 27 hH0 ?_;refine tk 5 28 hH0 ?_;refine tu 6 29 hH0 ?_;refine tu 7 30 hH0 ?_;refine tu 8 31 hH0 ?_;refine tu 9 32 hH0 ?_;refine tu 10 33 hH0 ?_;refine tu 11 34 hH0 ?_;refine tu 12 35 hH0 ?_;refine tu 13 36 hH0 ?_;refine tu 14 37 hH0 ?_;refine tk 15 38 hH0 ?_;refine tk 16 39 hH0 ?_;refine dn ?_ _
 all_goals(refine NoPanic.normal ?_)
 go_wp2;clear hput F1 F2 b0 b1;rw[rounds_succ];obtain⟨_,_,e,-,-,r0,r1,r2,r3,r4,r5,r6,r7⟩:=Wb (HS.out.below V1.out.below)
 cases e
 have y2:=V1.out.alloc 38 #[.string ⟨Qo.toArray⟩,.int .i64 1,.int .i64 m,.int .i64 0];have kq:=(KP.out (v1.alloc (.cells #[.string ⟨Qo.toArray⟩,.int .i64 1,.int .i64 m,.int .i64 0] 38))).2;have Y2:=Kd y2;clear y2 V1;go_wp2_with fail;refine kq.mono ?_;rintro e w3 ⟨rfl,z5⟩;have y3:=Y2.out.under z5;obtain⟨bx,hbx⟩:∃ g,v1.heap.size=g:=⟨_,rfl⟩;rw[hbx] at y3 ⊢
 have hc:∀ W',St w.heap.size w W' [Qa bx 38 #[.string ⟨Qo.toArray⟩,.int .i64 1,.int .i64 m,.int .i64 0]]→W'.cell? ⟨bx,0,none⟩=some (.string ⟨Qo.toArray⟩)∧W'.cell? ⟨sb,so,none⟩=some (.string ⟨Qq.toArray⟩):=fun W' y=>by
  obtain⟨_,_,e,-,-,q0,-⟩:=Wb (HS.out.below y.below)
  cases e
  exact⟨y.blk.cell 0,q0⟩
 have F1:=Kd (hc _ (y3.pk [0]));have F2:=Kd (hc _ (y3.drew.pk [0]));have b0:w3.drew.cell? ⟨bx,0,none⟩=some (.string ⟨Qo.toArray⟩):=(hc _ (y3.drew.pk [0])).1;have b1:w3.cell? ⟨bx,0,none⟩=some (.string ⟨Qo.toArray⟩):=(hc _ (y3.pk [0])).1;obtain⟨v2,hput,y4⟩:=(y3.drew.pk [1]).mput 169 J8 underlying169 (by decide) (Zb Qo (by decide)) (.int .i64 pl);have V2:=Kd y4;clear hc y3 y4 kq z5 Y2 hbx r0 r1 r2 r3 r4 r5 r6 r7;go_wp2_with fail;refine wp_region_noPanic ?_;refine wp_region_held_drew (S:=(fun W'=>W'.cell? ⟨bx,0,none⟩=some (.string ⟨Qo.toArray⟩)∧W'.cell? ⟨sb,so,none⟩=some (.string ⟨Qq.toArray⟩))) (by kernel_rfl) ?_ (fun hH0=>?_)
 ·exact F1.out
 refine tk 0 23 hH0 ?_;refine tk 1 24 hH0 ?_;refine tk 2 25 hH0 ?_;refine tk 3 26 hH0 ?_;refine tk 4 27 hH0 ?_;refine tk 5 28 hH0 ?_;refine tk 6 29 hH0 ?_;refine tk 7 30 hH0 ?_;refine tk 8 31 hH0 ?_;refine tk 12 35 hH0 ?_;refine tk 13 36 hH0 ?_;refine Zk [9] ?_;refine an 32 fun K hK=>?_;go_simp;go_wp2_with ((fail));refine hK.out _ _ ?_ (fun hH1=>?_)
 ·exact F1.out
 clear hK K hH0
 try simp only[pu]
 refine tk 10 33 hH1 ?_;refine tk 11 34 hH1 ?_;refine tk 14 37 hH1 ?_;refine tk 15 38 hH1 ?_;refine tk 16 39 hH1 ?_;refine dn ?_ _
 all_goals(refine NoPanic.normal ?_)
 go_wp2;clear hput F1 F2 b0 b1;rw[rounds_succ];go_wp2;go_ret2;exact⟨_,_,_,rfl,(Qz litAB).trans (Zd _ _ _),Zd _ _ _,V2.out⟩
abbrev eS:Tm.Qk→Value:=fun l=>Value.string ⟨l.toArray⟩
theorem St.rowPut {α:Type} [Inhabited α] (enc:α→Value) {lo:Nat} {w0 w:World} {Rs:List Q3} {e:TypeId} {g n c:Nat} {xs:List Value} (h:St lo w0 w (Qh e 1 (.slice (some ⟨g,0,none⟩) n c) n xs::Rs)) (m:Nat) (r:List α) (hrl:r.length=n):
 St lo w0 (Go.Sort.putRow enc (Go.Sort.ahead w m) g 0 r.toArray) (Qh e 1 (.slice (some ⟨g,0,none⟩) n c) n (r.map enc)::Rs):=by
 have ho:=Rl (q:=m) (r.map enc).toArray h.own (by simp[hrl])
 have hg:w.grownBy (Go.Sort.putRow id (Go.Sort.ahead w m) g 0 (r.map enc).toArray) (some g):=⟨rfl,rfl,rfl,by simp[Go.Sort.ahead],fun i _ hi=>by
  have hne:g≠i:=fun e=>hi (by rw[e])
  simp[Go.Sort.putRow,Go.Sort.mapBlock,Go.Sort.ahead,Array.getElem?_modify,hne]⟩
 have h1:=h.shift ho hg (.inl rfl)
 have e:Go.Sort.putRow enc (Go.Sort.ahead w m) g 0 r.toArray=Go.Sort.putRow id (Go.Sort.ahead w m) g 0 (r.map enc).toArray:=by
  unfold Go.Sort.putRow
  congr 1
  unfold Go.Sort.putCells
  funext c
  apply Array.ext_getElem?;intro i;simp only[Array.getElem?_mapIdx]
  congr 1
  funext x
  simp only[List.size_toArray,List.length_map,id]
  split
  ·rename_i hi
   have hi':i-0<r.length :=(by omega);have hi2:i<r.length :=(by omega);simp[hi2]
  ·rfl
 rw[e];simpa using h1
theorem St.holds {α:Type} [Inhabited α] (enc:α→Value) {lo:Nat} {w0 w:World} {Rs:List Q3} {e:TypeId} {g n c:Nat} {l:List α} (h:St lo w0 w (Qh e 1 (.slice (some ⟨g,0,none⟩) n c) n (l.map enc)::Rs)):Go.Sort.Holds enc w g 0 l.toArray:=by
 have:=Vh (F:=(l.map enc).toArray) (by simpa using h.own);intro j hj;obtain⟨q1,q2⟩:=this j (by simpa using hj);refine⟨?_,q2⟩;rw[q1];have hjl:j<l.length:=by simpa using hj
 simp[hjl]
theorem St.sortS {lo:Nat} {w0 w:World} {Rs:List Q3} {g n c:Nat} {l:List Tm.Qk} (h:St lo w0 w (Qh 9 1 (.slice (some ⟨g,0,none⟩) n c) n (l.map eS)::Rs)) (hl:l.length=n) (hg:g<w.heap.size) (hm:n<4611686018427387904):
 Calls prog 218 #[.slice (some ⟨g,0,none⟩) n c] w fun e w'=>e=.returned (.tuple #[])∧St lo w0 w' (Qh 9 1 (.slice (some ⟨g,0,none⟩) n c) n ((l.mergeSort fun x y=>decide (x≤y)).map eS)::Rs):=by
 have k:=AnyM.slices_Sort_string Tryz.sortStr g 0 c l w (h.holds eS) hg (by omega);rw[hl] at k
 change Calls prog 218 _ _ _ at k
 refine k.mono ?_;rintro e w' ⟨rfl,m,os,rfl⟩;exact⟨rfl,(h.rowPut eS m _ (by rw[List.length_mergeSort,hl])).under (F9 _ os)⟩
theorem St.compS {lo:Nat} {w0 w:World} {Rs:List Q3} {g n c:Nat} {l r:List Tm.Qk} {k:Nat} (h:St lo w0 w (Qh 9 1 (.slice (some ⟨g,0,none⟩) n c) n (l.map eS)::Rs)) (hl:l.length=n) (hm:n≤9223372036854775807) (hc:n≤c) (hr:Lib.compactUpTo l.toArray n=r) (hk:r.length=k) (hkn:k≤n):
 Calls prog 220 #[.slice (some ⟨g,0,none⟩) n c] w fun e w'=>e=.returned (.slice (some ⟨g,0,none⟩) k c)∧St lo w0 w' (Qh 9 1 (.slice (some ⟨g,0,none⟩) n c) n ((r++List.replicate (n-k) []).map eS)::Rs):=by
 have e:∀ x y:Tm.Qk,(x==y)=decide (x=y):=fun x y=>by rw[Bool.eq_iff_iff];simp
 have heq:EqlAt prog (Tryz.compS_ren.t 23) eS (fun x y=>decide (x=y)):=⟨fun x y w=>by
  have:=(EqlAt.string prog (Tryz.compS_ren.t 23)).1 ⟨x.toArray⟩ ⟨y.toArray⟩ w;dsimp only at this;rw[Q7,Q7,e] at this
  exact this,fun op a b x y w=>(EqlAt.string prog (Tryz.compS_ren.t 23)).2 op a b ⟨x.toArray⟩ ⟨y.toArray⟩ w⟩
 have hne:NeqAt prog (Tryz.compS_ren.t 23) eS (fun x y=>decide (x=y)):=⟨fun x y w=>by
  have:=(NeqAt.string prog (Tryz.compS_ren.t 23)).1 ⟨x.toArray⟩ ⟨y.toArray⟩ w;dsimp only at this;rw[Q7,Q7,e] at this
  exact this,fun op a b x y w=>(NeqAt.string prog (Tryz.compS_ren.t 23)).2 op a b ⟨x.toArray⟩ ⟨y.toArray⟩ w⟩
 have k1:=AnyE.slices_Compact Tryz.compS eS (fun _=>rfl) heq hne [] Tryz.zeroValue9 g 0 c l.toArray w (h.holds eS) (by simpa [hl] using hm) (by simpa [hl] using hc);rw[List.size_toArray,hl,hr,hk] at k1
 change Calls prog 220 _ _ _ at k1
 refine k1.mono ?_;rintro e w' ⟨rfl,q,rfl⟩;exact⟨rfl,h.rowPut eS q _ (by rw[List.length_append,List.length_replicate,hk];omega)⟩
theorem B9 (b n:Nat) (M:Lit→Option Value) (p:Tm.Qk) (v:Int) (w:World) (hm:Jd w 9 b n M) (hp:p.length≤maxLen) (he:M (.string p)=some (.int .i64 v)):
 Calls prog 219 #[.map (some b),.string ⟨p.toArray⟩] w fun e w'=>e=.returned (.int .i64 v)∧w'=w:=by
 have lk:=hm.look_ok J8 underlying169 (z:=.int .i64 0) (by kernel_rfl) (Zb p hp);rw[he] at lk;have lk:(Instr.lookup 169 (.map (some b)) (.string ⟨p.toArray⟩) true).run prog w=.ok (.tuple #[.int .i64 v,.bool true]) w:=lk;clear hm he hp;go_enter func219,ntmps219;go_wp2;go_ret;exact⟨rfl,rfl⟩
theorem Xv:(prog.info? 9).map (fun i=>(i.zero,i.size,i.bytes))=some (some (.string ⟨#[]⟩),1,16):=by kernel_rfl
theorem info_mv:(prog.info? 273).map (fun i=>(i.zero,i.size,i.bytes))=some (some (.agg #[.string ⟨#[]⟩,.int .i64 0,.int .i64 0]),3,32):=by kernel_rfl
theorem Rn {w:World} {g:Nat} {t:TypeId} {cs:Array Value} (b:Uc w g t cs):∀(j:Nat) (u:Value),cs.toList[j]?=some u→w.cell? ((⟨g,0,none⟩:Addr).add j)=some u:=fun j u hj=>by rw[Addr.add_lit,Nat.zero_add];refine(b.cell j).trans ?_;simpa using hj
theorem sorted_ex:([Qq,Qo,Qq,Qo]:List Tm.Qk).mergeSort (fun x y=>decide (x≤y))=[Qq,Qq,Qo,Qo]:=by
 have h1:decide (Qq≤Qo)=true:=by decide
 have h2:decide (Qo≤Qq)=false:=by decide
 have h3:decide (Qq≤Qq)=true:=by decide
 have h4:decide (Qo≤Qo)=true:=by decide
 simp[List.mergeSort,List.MergeSort.Internal.splitInTwo,h1,h2]
theorem comp_ex:Lib.compactUpTo ([Qq,Qq,Qo,Qo]:List Tm.Qk).toArray 4=[Qq,Qo]:=by decide
theorem moves_ex (sA tA:Option Addr) (sC tC:Nat) (F:Nat→Prop) (w:World) (hs:Z9 w F sA ((Ke 1).flatMap Wm)) (ht:Z9 w F tA ((Ke 2).flatMap Wm)):
 Calls prog 166 #[.slice sA 2 sC,.slice tA 2 tC] w fun e w'=>∃ mA mC,e=.returned (.tuple #[.slice mA 1 mC,.int .i64 0])∧St w.heap.size w w' [Ja 3 (.slice mA 1 mC) 1 [.string ⟨Qo.toArray⟩,.int .i64 1000,.int .i64 2000]]:=by
 have k1:=Pb sA sC 1 1000 (by decide) (by decide) F w hs;have HH:=Kd2 hs ht;clear hs ht;go_enter func166,ntmps166;go_wp2_with fail;refine k1.mono ?_;rintro e w1 ⟨b1,n1,M1,rfl,a1,c1,z1⟩;have k2:=Pb tA tC 2 2000 (by decide) (by decide) F w1 (HH.out.2.below z1.below);have Y1:=Kd z1;have HM1:=Kd2 a1 c1;clear k1 z1 a1 c1;go_wp2_with fail;refine k2.mono ?_;rintro e w2 ⟨b2,n2,M2,rfl,a2,c2,z2⟩;have HM2:=Kd2 a2 c2;have y2:=Y1.out.graft z2;have k3:=Hz sA 2 sC ((Ke 1).flatMap Wm) F w2 (HH.out.1.below y2.below) (Bp _) rfl (by decide);have Y2:=Kd y2;clear k2 z2 a2 c2 y2 Y1;go_wp2_with fail;refine k3.mono ?_;rintro e w3 ⟨cA,cC,rfl,z3⟩;have Y3:=Kd ((Y2.out.graft z3).toQu);have RD:=Kd (HH.out.2.below Y3.out.below);have n3:2+2≤maxLen:=by decide
 have n4:(2+2)*40≤140737488355328:=by decide
 clear k3 z3 Y2;go_wp2_with (at_builtin;go_must (refine Jw 30 Y3.out underlying30 Vx rfl RD.out rfl (by decide) (Bp _) n3 n4 rfl _ _ rfl rfl rfl ?_);intro qA qC v0 h5);have h5:St w.heap.size w v0 [Ja 4 (.slice qA 4 qC) 4 [.string ⟨Qq.toArray⟩,.int .i64 1,.int .i64 0,.int .i64 0,.string ⟨Qo.toArray⟩,.int .i64 1,.int .i64 1,.int .i64 0,.string ⟨Qq.toArray⟩,.int .i64 1,.int .i64 0,.int .i64 0,.string ⟨Qo.toArray⟩,.int .i64 1,.int .i64 2,.int .i64 0],Zw 9 b2 n2 M2,Zw 9 b1 n1 M1]:=h5;obtain⟨qb,qo,rfl,-,-,-⟩:=h5.qu_cell (by decide);have y6:=h5.new_own (e:=9) (size:=1) (v:=.slice none 0 0) (n:=0) (xs:=[]) (Below.refl _ _) ⟨rfl,.inl ⟨rfl,rfl⟩⟩;have V0:=Kd y6;clear h5 y6 Y3 RD n3 n4;go_wp2;refine wp_loop_rounds 5 ?_;rw[rounds_succ];obtain⟨_,_,e,-,-,nc⟩:=(V0.out.pk [1]).qu_cell (by decide)
 cases e
 have r0:=nc 0 _ rfl;have r1:=nc 1 _ rfl;have r2:=nc 2 _ rfl;have r3:=nc 3 _ rfl;simp only[Nat.add_zero] at r0;have y2:=(V0.out.alloc 38 #[.string ⟨Qq.toArray⟩,.int .i64 1,.int .i64 0,.int .i64 0]).alloc 9 #[.string ⟨Qq.toArray⟩];have hn:=Rn y2.blk;simp only[World.size_alloc] at hn;have HN:=Kd hn;have Y2:=Kd (y2.pk [2,3,4,5]);have HO:Hid (∀ u∈([.string ⟨Qq.toArray⟩]:List Value),u.oneCell'=true):=Kd fun u hu=>by rw[List.mem_singleton.1 hu];rfl
 have n3:0+1≤maxLen:=by decide
 have n4:(0+1)*16≤140737488355328:=by decide
 clear nc V0 y2 hn;go_wp2_with (at_builtin;go_must (refine W9 134 Y2.out underlying134 Xv rfl (by decide) rfl _ _ rfl rfl ⟨v0.heap.size+1,0,none⟩ 1 1 [.string ⟨Qq.toArray⟩] rfl rfl HN.out HO.out n3 n4 ?_);intro p1 v1 h5);have V1:=Kd h5;clear h5 Y2 HN HO n3 n4 r0 r1 r2 r3;go_wp2;rw[rounds_succ];obtain⟨_,_,e,-,-,nc⟩:=(V1.out.pk [1]).qu_cell (by decide)
 cases e
 have r0:=nc 4 _ rfl;have r1:=nc 5 _ rfl;have r2:=nc 6 _ rfl;have r3:=nc 7 _ rfl;have y2:=(V1.out.alloc 38 #[.string ⟨Qo.toArray⟩,.int .i64 1,.int .i64 1,.int .i64 0]).alloc 9 #[.string ⟨Qo.toArray⟩];have hn:=Rn y2.blk;simp only[World.size_alloc] at hn;have HN:=Kd hn;have Y2:=Kd (y2.pk [2,3,4,5]);have HO:Hid (∀ u∈([.string ⟨Qo.toArray⟩]:List Value),u.oneCell'=true):=Kd fun u hu=>by rw[List.mem_singleton.1 hu];rfl
 have n3:1+1≤maxLen:=by decide
 have n4:(1+1)*16≤140737488355328:=by decide
 clear nc V1 y2 hn;go_wp2_with (at_builtin;go_must (refine W9 134 Y2.out underlying134 Xv rfl (by decide) rfl _ _ rfl rfl ⟨v1.heap.size+1,0,none⟩ 1 1 [.string ⟨Qo.toArray⟩] rfl rfl HN.out HO.out n3 n4 ?_);intro p2 v2 h5);have V2:=Kd h5;clear h5 Y2 HN HO n3 n4 r0 r1 r2 r3;go_wp2;rw[rounds_succ];obtain⟨_,_,e,-,-,nc⟩:=(V2.out.pk [1]).qu_cell (by decide)
 cases e
 have r0:=nc 8 _ rfl;have r1:=nc 9 _ rfl;have r2:=nc 10 _ rfl;have r3:=nc 11 _ rfl;have y2:=(V2.out.alloc 38 #[.string ⟨Qq.toArray⟩,.int .i64 1,.int .i64 0,.int .i64 0]).alloc 9 #[.string ⟨Qq.toArray⟩];have hn:=Rn y2.blk;simp only[World.size_alloc] at hn;have HN:=Kd hn;have Y2:=Kd (y2.pk [2,3,4,5]);have HO:Hid (∀ u∈([.string ⟨Qq.toArray⟩]:List Value),u.oneCell'=true):=Kd fun u hu=>by rw[List.mem_singleton.1 hu];rfl
 have n3:2+1≤maxLen:=by decide
 have n4:(2+1)*16≤140737488355328:=by decide
 clear nc V2 y2 hn;go_wp2_with (at_builtin;go_must (refine W9 134 Y2.out underlying134 Xv rfl (by decide) rfl _ _ rfl rfl ⟨v2.heap.size+1,0,none⟩ 1 1 [.string ⟨Qq.toArray⟩] rfl rfl HN.out HO.out n3 n4 ?_);intro p3 v3 h5);have V3:=Kd h5;clear h5 Y2 HN HO n3 n4 r0 r1 r2 r3;go_wp2;rw[rounds_succ];obtain⟨_,_,e,-,-,nc⟩:=(V3.out.pk [1]).qu_cell (by decide)
 cases e
 have r0:=nc 12 _ rfl;have r1:=nc 13 _ rfl;have r2:=nc 14 _ rfl;have r3:=nc 15 _ rfl;have y2:=(V3.out.alloc 38 #[.string ⟨Qo.toArray⟩,.int .i64 1,.int .i64 2,.int .i64 0]).alloc 9 #[.string ⟨Qo.toArray⟩];have hn:=Rn y2.blk;simp only[World.size_alloc] at hn;have HN:=Kd hn;have Y2:=Kd (y2.pk [2,3,4,5]);have HO:Hid (∀ u∈([.string ⟨Qo.toArray⟩]:List Value),u.oneCell'=true):=Kd fun u hu=>by rw[List.mem_singleton.1 hu];rfl
 have n3:3+1≤maxLen:=by decide
 have n4:(3+1)*16≤140737488355328:=by decide
 clear nc V3 y2 hn;go_wp2_with (at_builtin;go_must (refine W9 134 Y2.out underlying134 Xv rfl (by decide) rfl _ _ rfl rfl ⟨v3.heap.size+1,0,none⟩ 1 1 [.string ⟨Qo.toArray⟩] rfl rfl HN.out HO.out n3 n4 ?_);intro p4 v4 h5);have V4:=Kd h5;clear h5 Y2 HN HO n3 n4 r0 r1 r2 r3;go_wp2;rw[rounds_succ];have y5:St w.heap.size w v4 [Qh 9 1 p4 4 (([Qq,Qo,Qq,Qo]:List Tm.Qk).map eS),Ja 4 (.slice (some ⟨qb,qo,none⟩) 4 qC) 4 [.string ⟨Qq.toArray⟩,.int .i64 1,.int .i64 0,.int .i64 0,.string ⟨Qo.toArray⟩,.int .i64 1,.int .i64 1,.int .i64 0,.string ⟨Qq.toArray⟩,.int .i64 1,.int .i64 0,.int .i64 0,.string ⟨Qo.toArray⟩,.int .i64 1,.int .i64 2,.int .i64 0],Zw 9 b2 n2 M2,Zw 9 b1 n1 M1]:=V4.out;obtain⟨pg,pc,rfl,hpg,hpn,-⟩:=Zx y5.own (by decide);have ks:=y5.sortS rfl hpg (by decide);rw[sorted_ex] at ks;clear V4 y5;go_wp2_with fail;refine ks.mono ?_;rintro e v5 ⟨rfl,y6⟩;have kc:=y6.compS (r:=[Qq,Qo]) (k:=2) rfl (by decide) hpn comp_ex rfl (by decide);clear ks y6;go_wp2_with fail;refine kc.mono ?_;rintro e u0 ⟨rfl,y7⟩;have y7:St w.heap.size w u0 [Qh 9 1 (.slice (some ⟨pg,0,none⟩) 4 pc) 4 [.string ⟨Qq.toArray⟩,.string ⟨Qo.toArray⟩,.string ⟨#[]⟩,.string ⟨#[]⟩],Ja 4 (.slice (some ⟨qb,qo,none⟩) 4 qC) 4 [.string ⟨Qq.toArray⟩,.int .i64 1,.int .i64 0,.int .i64 0,.string ⟨Qo.toArray⟩,.int .i64 1,.int .i64 1,.int .i64 0,.string ⟨Qq.toArray⟩,.int .i64 1,.int .i64 0,.int .i64 0,.string ⟨Qo.toArray⟩,.int .i64 1,.int .i64 2,.int .i64 0],Zw 9 b2 n2 M2,Zw 9 b1 n1 M1]:=y7;have U0:=Kd (y7.quNil 3 273);clear kc y7;go_wp2;refine wp_loop_rounds 3 ?_;rw[rounds_succ];have r0:=((U0.out.pk [1]).cellAt (j:=0) rfl).1;have k1:=B9 b1 n1 M1 Qq 0 u0 (U0.out.pk [4]).mp (by decide) HM1.out.1;have k2:=B9 b2 n2 M2 Qq 0 u0 (U0.out.pk [3]).mp (by decide) HM2.out.1;go_wp2_with fail;refine k1.mono ?_;rintro e w9 ⟨rfl,hw⟩;obtain rfl:u0=w9:=hw.symm;go_wp2_with fail;refine k2.mono ?_;rintro e w9 ⟨rfl,hw⟩;obtain rfl:u0=w9:=hw.symm;clear k1 k2;have U1:=Kd ((U0.out.alloc 273 #[.string ⟨Qq.toArray⟩,.int .i64 0,.int .i64 0]).tail);go_wp2;obtain⟨u1,hv⟩:∃ W,u0.alloc (.cells #[.string ⟨Qq.toArray⟩,.int .i64 0,.int .i64 0] 273)=W:=⟨_,rfl⟩;rw[hv] at U1 ⊢;clear hv r0 U0;rw[rounds_succ];have r0:=((U1.out.pk [1]).cellAt (j:=1) rfl).1;have k1:=B9 b1 n1 M1 Qo 1000 u1 (U1.out.pk [4]).mp (by decide) HM1.out.2;have k2:=B9 b2 n2 M2 Qo 2000 u1 (U1.out.pk [3]).mp (by decide) HM2.out.2;go_wp2_with fail;refine k1.mono ?_;rintro e w9 ⟨rfl,hw⟩;obtain rfl:u1=w9:=hw.symm;go_wp2_with fail;refine k2.mono ?_;rintro e w9 ⟨rfl,hw⟩;obtain rfl:u1=w9:=hw.symm;clear k1 k2;have y8:=(U1.out.alloc 273 #[.string ⟨Qo.toArray⟩,.int .i64 1000,.int .i64 2000]).alloc 273 #[.string ⟨Qo.toArray⟩,.int .i64 1000,.int .i64 2000];have hrd:=y8.blkRd;simp only[World.size_alloc] at hrd;have HRD:=Kd hrd;have YC:=Kd (y8.pk [2]);have hone:∀ u∈([.string ⟨Qo.toArray⟩,.int .i64 1000,.int .i64 2000]:List Value),u.oneCell'=true:=fun u hu=>by simp at hu;rcases hu with rfl|rfl|rfl<;>rfl
 have n3:0+1≤maxLen:=by decide
 have n4:(0+1)*32≤140737488355328:=by decide
 clear y8 hrd;go_wp2_with (at_builtin;go_must (refine Jw 269 YC.out underlying269 info_mv rfl HRD.out rfl (by decide) hone n3 n4 rfl _ _ rfl rfl rfl ?_);intro mA mC u2 h5);have U2:=Kd h5;clear h5 YC HRD hone n3 n4 r0 U1;go_wp2;rw[rounds_succ];go_wp2;go_ret2;exact⟨_,_,rfl,U2.out⟩
noncomputable def L1 (m:Int) (fA fC:Option Addr) (fB fD:Nat):Lit→Option Value:=Jq (Jq (fun _=>none) (.string Qq) (.agg #[.string ⟨Qq.toArray⟩,.int .i64 1,.int .i64 0,.int .i64 0,.slice fA 1 fB,.string ⟨#[]⟩,.string ⟨#[]⟩,.string ⟨#[]⟩,.bool false])) (.string Qo) (.agg #[.string ⟨Qo.toArray⟩,.int .i64 1,.int .i64 m,.int .i64 0,.slice fC 0 fD,.string ⟨#[]⟩,.string ⟨#[]⟩,.string ⟨#[]⟩,.bool false])
theorem sideM_B (m:Int) (fA fC:Option Addr) (fB fD:Nat):L1 m fA fC fB fD (.string Qo)=some (.agg #[.string ⟨Qo.toArray⟩,.int .i64 1,.int .i64 m,.int .i64 0,.slice fC 0 fD,.string ⟨#[]⟩,.string ⟨#[]⟩,.string ⟨#[]⟩,.bool false]):=Zd _ _ _
theorem sideM_inv {m:Int} {fA fC:Option Addr} {fB fD:Nat} {kl:Lit} {v:Value} (h:L1 m fA fC fB fD kl=some v):v=.agg #[.string ⟨Qq.toArray⟩,.int .i64 1,.int .i64 0,.int .i64 0,.slice fA 1 fB,.string ⟨#[]⟩,.string ⟨#[]⟩,.string ⟨#[]⟩,.bool false]∨v=.agg #[.string ⟨Qo.toArray⟩,.int .i64 1,.int .i64 m,.int .i64 0,.slice fC 0 fD,.string ⟨#[]⟩,.string ⟨#[]⟩,.string ⟨#[]⟩,.bool false]:=by
 unfold L1 at h
 by_cases e:kl=.string Qo
 ·rw[e,Zd] at h
  exact .inr (Option.some.inj h).symm
 ·rw[Qz e] at h
  by_cases e2:kl=.string Qq
  ·rw[e2,Zd] at h
   exact .inl (Option.some.inj h).symm
  ·rw[Qz e2] at h
   cases h
theorem newSide_ex (A qA iA sA:Option Addr) (c qC iN iC sC:Nat) (m:Int) (hm:m=0∨m=1∨m=2) (F:Nat→Prop) (w:World) (h:Qx w F (.slice A 4 c) (Jl (.slice qA 1 qC))) (hs:Z9 w F sA ((Ke m).flatMap Wm)) (hg:Ji w):
 Calls prog 214 #[.agg #[.slice A 4 c,.slice iA iN iC],.slice sA 2 sC] w fun e w'=>∃ b n fA fC fB fD,e=.returned (.tuple #[.map (some b),.int .i64 0])∧St w.heap.size w w' [Zw 9 b n (L1 m fA fC fB fD),rqR (.slice fA 1 fB) [⟨Qo,[(1000,1000000)]⟩]]:=by
 obtain⟨sb,so,rfl,-,-⟩:=Wb hs;have y0:=(St.nil w).alloc 25 #[.slice A 4 c,.slice iA iN iC];obtain⟨W0,hW0⟩:∃ W,w.alloc (.cells #[.slice A 4 c,.slice iA iN iC] 25)=W:=⟨_,rfl⟩;rw[hW0] at y0;have k1:=Vk _ _ (.slice iA iN iC) F W0 (h.below y0.below) (W6 _) rfl (hg.below y0.below);rw[Gv] at k1;have x0:=y0.blk.cell 0;have x1:=y0.blk.cell 1;have Y0:=Kd y0;have HH:=Kd4 h hs hg hm;clear h hs hg hm y0;go_enter func214,ntmps214;go_wp2_with fail;refine k1.mono ?_;rintro e w1 ⟨rfl,z1⟩;have Y1:=Kd (Y0.out.under z1);clear k1 x0 x1 z1 Y0 hW0;go_wp2;refine wp_loop_rounds 2 ?_;rw[rounds_succ];go_wp2_with fail
 have hc:∀ W,Below w.heap.size w W→W.cell? ⟨sb,so,none⟩=some (.string ⟨Qq.toArray⟩)∧W.cell? ⟨sb,so+4,none⟩=some (.string ⟨Qo.toArray⟩):=fun W hW=>by
  obtain⟨_,_,e,-,-,r0,-,-,-,r4,-⟩:=Wb (HH.out.2.1.below hW)
  cases e
  exact⟨r0,r4⟩
 have F1:=Kd (hc _ Y1.out.below);have F2:=Kd (hc _ Y1.out.drew.below);clear hc;refine wp_region_noPanic ?_;refine wp_region_held_drew (S:=(fun W'=>W'.cell? ⟨sb,so,none⟩=some (.string ⟨Qq.toArray⟩)∧W'.cell? ⟨sb,so+4,none⟩=some (.string ⟨Qo.toArray⟩))) (by kernel_rfl) ?_ (fun hH0=>?_)
 ·exact F1.out
 refine tk 0 21 hH0 ?_;refine tk 1 22 hH0 ?_;refine tk 2 23 hH0 ?_;refine tk 6 27 hH0 ?_;refine tk 7 28 hH0 ?_;refine tk 8 29 hH0 ?_;refine tk 9 30 hH0 ?_;refine tk 10 31 hH0 ?_;refine Zk [3] ?_;refine an 24 fun K hK=>?_;go_simp;go_wp2_with ((fail));refine hK.out _ _ ?_ (fun hH1=>?_)
 ·exact F1.out
 clear hK K hH0
 try simp only[pu]
 refine tk 4 25 hH1 ?_;refine tk 5 26 hH1 ?_;refine tk 11 32 hH1 ?_;refine dn ?_ _
 all_goals(refine NoPanic.normal ?_)
 have V0:=Kd (Y1.out.drew.mpMade 9);have hmm:=@run_makeMap prog;obtain⟨w2,hw2⟩:∃ W,w1.drew=W:=⟨_,rfl⟩;rw[hw2] at V0;clear F1 F2 Y1;go_wp2;rw[rounds_succ];go_wp2;obtain⟨v0,hv⟩:∃ W,w2.alloc (.map #[] 0)=W:=⟨_,rfl⟩;obtain⟨gm,hgm⟩:∃ g,w2.heap.size=g:=⟨_,rfl⟩;rw[hv,hgm] at V0 ⊢;clear hv hgm hw2 hmm;refine wp_loop_rounds 3 ?_;rw[rounds_succ];obtain⟨_,_,e,-,-,r0,r1,r2,r3,r4,r5,r6,r7⟩:=Wb (HH.out.2.1.below V0.out.below)
 cases e
 have y2:=V0.out.alloc 38 #[.string ⟨Qq.toArray⟩,.int .i64 1,.int .i64 0,.int .i64 0];have kf:=Dm A qA iA c qC iN iC F (v0.alloc (.cells #[.string ⟨Qq.toArray⟩,.int .i64 1,.int .i64 0,.int .i64 0] 38)) (HH.out.1.below y2.below) (HH.out.2.2.1.below y2.below);have x0:=(V0.out.pk [1]).blk.cell 0;have x1:=(V0.out.pk [1]).blk.cell 1;have xl:=(V0.out.pk [1]).blk.lt;have Y2:=Kd y2;clear y2 V0;go_wp2_with fail;refine kf.mono ?_;rintro e w5 ⟨fA,fB,rfl,z5,hq⟩;have y3:=(Y2.out.newRq z5 hq);clear hq;have s0:=(y3.pk [1]).blk.cell 0;have sl:=(y3.pk [1]).blk.lt;have y4:=y3.alloc 46 #[.string ⟨Qq.toArray⟩,.int .i64 1,.int .i64 0,.int .i64 0,.slice fA 1 fB,.string ⟨#[]⟩,.string ⟨#[]⟩,.string ⟨#[]⟩,.bool false];obtain⟨v1,hput,y5⟩:=(y4.pk [3,1,4]).mput 264 J8 underlying264 (by decide) (Zb Qq (by decide)) (.agg #[.string ⟨Qq.toArray⟩,.int .i64 1,.int .i64 0,.int .i64 0,.slice fA 1 fB,.string ⟨#[]⟩,.string ⟨#[]⟩,.string ⟨#[]⟩,.bool false]);have V1:=Kd y5;clear kf z5 y3 y4 y5 Y2 r0 r1 r2 r3 r4 r5 r6 r7;generalize v0.heap.size=bx at s0 sl ⊢;go_wp2;clear hput s0 sl x0 x1 xl;rw[rounds_succ];obtain⟨_,_,e,-,-,r0,r1,r2,r3,r4,r5,r6,r7⟩:=Wb (HH.out.2.1.below V1.out.below)
 cases e
 have y2:=V1.out.alloc 38 #[.string ⟨Qo.toArray⟩,.int .i64 1,.int .i64 m,.int .i64 0];have kf:=Dl A qA iA c qC iN iC m HH.out.2.2.2 F (v1.alloc (.cells #[.string ⟨Qo.toArray⟩,.int .i64 1,.int .i64 m,.int .i64 0] 38)) (HH.out.1.below y2.below) (HH.out.2.2.1.below y2.below);have x0:=(V1.out.pk [2]).blk.cell 0;have x1:=(V1.out.pk [2]).blk.cell 1;have xl:=(V1.out.pk [2]).blk.lt;have Y2:=Kd y2;clear y2 V1;go_wp2_with fail;refine kf.mono ?_;rintro e w5 ⟨fC,fD,rfl,z5⟩;have y3:=Y2.out.under z5;have s0:=(y3.pk [0]).blk.cell 0;have sl:=(y3.pk [0]).blk.lt;have y4:=y3.alloc 46 #[.string ⟨Qo.toArray⟩,.int .i64 1,.int .i64 m,.int .i64 0,.slice fC 0 fD,.string ⟨#[]⟩,.string ⟨#[]⟩,.string ⟨#[]⟩,.bool false];obtain⟨v2,hput,y5⟩:=(y4.pk [2,3,4]).mput 264 J8 underlying264 (by decide) (Zb Qo (by decide)) (.agg #[.string ⟨Qo.toArray⟩,.int .i64 1,.int .i64 m,.int .i64 0,.slice fC 0 fD,.string ⟨#[]⟩,.string ⟨#[]⟩,.string ⟨#[]⟩,.bool false]);have V2:=Kd y5;clear kf z5 y3 y4 y5 Y2 r0 r1 r2 r3 r4 r5 r6 r7;generalize v1.heap.size=bx at s0 sl ⊢;go_wp2;clear hput s0 sl x0 x1 xl;rw[rounds_succ];go_wp2;go_ret2;exact⟨_,_,fA,fC,fB,fD,rfl,V2.out.pk [0,1]⟩
theorem sat_spec (p:Tm.Qk) (m pl:Int) (rA:Option Addr) (rN rC:Nat) (v:Value) (s:List Tm.Sp) (F:Nat→Prop) (b n:Nat) (M:Lit→Option Value) (w:World) (hm:Jd w 9 b n M) (hp:p.length≤maxLen)
 (he:M (.string p)=some (.agg #[.string ⟨p.toArray⟩,.int .i64 1,.int .i64 m,.int .i64 0,.slice rA rN rC,.string ⟨#[]⟩,.string ⟨#[]⟩,.string ⟨#[]⟩,.bool false])) (hok:Mq 1 m 0=true) (hpl:1000*m+0=pl) (hs:Qr w F v s) (hh:Tm.has s pl=true):
 Calls prog 216 #[.map (some b),.agg #[.string ⟨p.toArray⟩,v]] w fun e w'=>e=.returned (.bool true)∧Below w.heap.size w w':=by
 obtain⟨A,c,rfl,-,-,-⟩:=id hs;obtain⟨N,hN⟩:∃ n,s.length=n:=⟨_,rfl⟩;rw[hN] at hs ⊢;have y0:=(St.nil w).alloc 43 #[.string ⟨p.toArray⟩,.slice A N c];have lk:(Instr.lookup 264 (.map (some b)) (.string ⟨p.toArray⟩) true).run prog (w.alloc (.cells #[.string ⟨p.toArray⟩,.slice A N c] 43))=.ok (.tuple #[.agg #[.string ⟨p.toArray⟩,.int .i64 1,.int .i64 m,.int .i64 0,.slice rA rN rC,.string ⟨#[]⟩,.string ⟨#[]⟩,.string ⟨#[]⟩,.bool false],.bool true]) (w.alloc (.cells #[.string ⟨p.toArray⟩,.slice A N c] 43)):=by have:=(hm.below y0.below).look_ok J8 underlying264 (Ym _) (Zb p hp);rw[he] at this;exact this
 have y1:=y0.alloc 46 #[.string ⟨p.toArray⟩,.int .i64 1,.int .i64 m,.int .i64 0,.slice rA rN rC,.string ⟨#[]⟩,.string ⟨#[]⟩,.string ⟨#[]⟩,.bool false];have kp:∀ W,Calls prog 91 #[.agg #[.int .i64 1,.int .i64 m,.int .i64 0]] W fun e w'=>e=.returned (.tuple #[.int .i64 pl,.int .i64 0])∧Below W.heap.size W w':=fun W=>by rw[←hpl];exact Z6 1 m 0 W hok
 have Y1:=Kd y1;have HH:=Kd2 hs hh;clear hm hs y0 y1 hN he hok hpl hh;go_enter func216,ntmps216;go_wp2_with fail;refine(kp _).mono ?_;rintro e w2 ⟨rfl,z2⟩;have y2:=Y1.out.under z2;have kh:=Ys s _ F pl w2 (HH.out.1.below y2.below);rw[HH.out.2] at kh;have x1:=(y2.pk [1]).blk.cell 1;have Y2:=Kd y2;clear kp lk z2 y2 Y1;go_wp2_with fail;refine kh.mono ?_;rintro e w3 ⟨rfl,z3⟩;have Z3:=Kd (Y2.out.under z3).below;clear kh z3 x1 Y2;go_wp2;go_ret;exact⟨rfl,Z3.out⟩
theorem con1_spec (p:Tm.Qk) (m pl:Int) (rA:Option Addr) (rN rC:Nat) (v:Value) (s:List Tm.Sp) (F:Nat→Prop) (gm b n:Nat) (M:Lit→Option Value) (w:World) (hm:Jd w 9 b n M) (hg:w.cell? ⟨gm,0,none⟩=some (.map (some b))) (hp:p.length≤maxLen)
 (he:M (.string p)=some (.agg #[.string ⟨p.toArray⟩,.int .i64 1,.int .i64 m,.int .i64 0,.slice rA rN rC,.string ⟨#[]⟩,.string ⟨#[]⟩,.string ⟨#[]⟩,.bool false])) (hok:Mq 1 m 0=true) (hpl:1000*m+0=pl) (hs:Qr w F v s) (hh:Tm.has s pl=true):
 Calls prog 215 #[.agg #[.string ⟨p.toArray⟩,v],.pointer (some ⟨gm,0,none⟩)] w fun e w'=>e=.returned (.bool false)∧Below w.heap.size w w':=by
 have hl:=World.block_lt_of_cell? w _ hg;obtain⟨A,c,rfl,-,-,-⟩:=id hs;obtain⟨N,hN⟩:∃ n,s.length=n:=⟨_,rfl⟩;rw[hN] at hs ⊢;have z0:=b1 w (.cells #[.string ⟨p.toArray⟩,.slice A N c] 43);have k:=sat_spec p m pl rA rN rC _ s F b n M _ (hm.below z0) hp he hok hpl (hs.below z0) hh;have Z0:=Kd z0;clear hm hs hN he hok hpl hh z0;go_enter func215,ntmps215;go_wp2_with fail;refine k.mono ?_;rintro e w1 ⟨rfl,z1⟩;have Z1:=Kd (Q0 Z0.out z1);clear k z1;go_wp2;go_ret;exact⟨rfl,Z1.out⟩
theorem conR_spec (A:Option Addr) (c:Nat) (G:Nat→Prop) (p:Tm.Qk) (m pl:Int) (rA:Option Addr) (rN rC:Nat) (s:List Tm.Sp) (gm b n:Nat) (M:Lit→Option Value) (w:World) (hr:Qt w G (.slice A 1 c) [⟨p,s⟩]) (hm:Jd w 9 b n M) (hg:w.cell? ⟨gm,0,none⟩=some (.map (some b))) (hp:p.length≤maxLen)
 (he:M (.string p)=some (.agg #[.string ⟨p.toArray⟩,.int .i64 1,.int .i64 m,.int .i64 0,.slice rA rN rC,.string ⟨#[]⟩,.string ⟨#[]⟩,.string ⟨#[]⟩,.bool false])) (hok:Mq 1 m 0=true) (hpl:1000*m+0=pl) (hh:Tm.has s pl=true):
 Calls prog 26 #[.slice A 1 c,.func (.func 215) #[] #[.pointer (some ⟨gm,0,none⟩)]] w fun e w'=>e=.returned (.bool false)∧Below w.heap.size w w':=by
 have hl:=World.block_lt_of_cell? w _ hg;obtain⟨_,_,L,e1,e2,-,-,hrd,hsf⟩:=hr;obtain⟨⟨q,v⟩,rfl⟩:∃ m,L=[m]:=List.length_eq_one_iff.1 (by rw[←List.length_map (f:=Prod.fst),e1];rfl);obtain rfl:q=⟨p,s⟩:=by injection e1
 obtain⟨rfl,-,rfl⟩:=Value.slice.inj e2;have hsv:=hsf _ (List.mem_singleton.2 rfl);refine(Vl 215 #[.pointer (some ⟨gm,0,none⟩)] (enters_of func215 (by kernel_rfl) rfl) A 1 c (fun _=>.string ⟨p.toArray⟩) (fun _=>v) (fun _=>false) w (by decide) (fun j hj=>?_) (fun j W hj hb=>con1_spec p m pl rA rN rC v s G gm b n M W (hm.below hb) ((hb.cell hl).trans hg) hp he hok hpl (hsv.below hb) hh)).mono ?_
 ·obtain rfl:j=0:=by omega
  obtain⟨b,off,e,hb,x0,x1⟩:=Jk hrd (j:=0) (Nat.succ_pos 0);exact⟨b,off,e,hb,x0,x1⟩
 ·rintro e w' ⟨x,rfl,hb,ha⟩
  have:x=false:=by
   cases x
   ·rfl
   ·obtain⟨i,-,h⟩:=ha.1 rfl
    cases h
  rw[this];exact⟨rfl,hb⟩
theorem con0_spec (A:Option Addr) (c:Nat) (gm:Nat) (w:World):
 Calls prog 26 #[.slice A 0 c,.func (.func 215) #[] #[.pointer (some ⟨gm,0,none⟩)]] w fun e w'=>e=.returned (.bool false)∧Below w.heap.size w w':=by
 refine(Vl 215 #[.pointer (some ⟨gm,0,none⟩)] (enters_of func215 (by kernel_rfl) rfl) A 0 c (fun _=>undef) (fun _=>undef) (fun _=>false) w (Nat.zero_le _) (fun j hj=>absurd hj (Nat.not_lt_zero _)) (fun j W hj hb=>absurd hj (Nat.not_lt_zero _))).mono ?_;rintro e w' ⟨x,rfl,hb,ha⟩
 have:x=false:=by
  cases x
  ·rfl
  ·obtain⟨i,-,h⟩:=ha.1 rfl
   cases h
 rw[this];exact⟨rfl,hb⟩
theorem RgAt.map {w:World} {kt:TypeId} {b r n Js:Nat} {M:Lit→Option Value} {left:Lit→Bool} (h:RgAt w kt b r n M left Js):Jd w kt b n M:=by obtain⟨D,h1,h2⟩:=h;exact⟨D,h1.owns,h2⟩
theorem Fh (A qA iA sA:Option Addr) (c qC iN iC sC:Nat) (m pl:Int) (hm:m=0∨m=1∨m=2) (hok:Mq 1 m 0=true) (hpl:1000*m+0=pl) (hh:Tm.has [(1000,1000000)] pl=true) (F:Nat→Prop) (w:World) (h:Qx w F (.slice A 4 c) (Jl (.slice qA 1 qC))) (hs:Z9 w F sA ((Ke m).flatMap Wm)) (hg:Ji w):
 Calls prog 165 #[.agg #[.slice A 4 c,.slice iA iN iC],.slice sA 2 sC] w fun e w'=>∃ b,e=.returned (.tuple #[.map (some b),.int .i64 0])∧Below w.heap.size w w':=by
 have y0:=(St.nil w).alloc 25 #[.slice A 4 c,.slice iA iN iC];obtain⟨W0,hW0⟩:∃ W,w.alloc (.cells #[.slice A 4 c,.slice iA iN iC] 25)=W:=⟨_,rfl⟩;rw[hW0] at y0;have k1:=newSide_ex A qA iA sA c qC iN iC sC m hm F W0 (h.below y0.below) (hs.below y0.below) (hg.below y0.below);have x0:=y0.blk.cell 0;have x1:=y0.blk.cell 1;have Y0:=Kd y0;have HH:=Kd3 hok hpl hh;clear h hs hg hm y0 hok hpl hh;go_enter func165,ntmps165;go_wp2_with fail;refine k1.mono ?_;rintro e w1 ⟨b,n,fA,fC,fB,fD,rfl,z1⟩;have y1:=(Y0.out.graft z1).alloc 264 #[.map (some b)];obtain⟨W2,r,Js,-,m2,s2⟩:=(y1.pk [1,2,0]).mrange 264 J8 underlying264;have S2:=Kd s2;obtain⟨gs,hgs⟩:∃ g,w1.heap.size=g:=⟨_,rfl⟩;rw[hgs] at S2;clear k1 x0 x1 z1 y1 s2 Y0 hW0;go_wp2;clear hgs m2
 go_loopw [] (fun wr=>∃(left:Lit→Bool) (Js:Nat),Hid (St w.heap.size w wr [rgR 9 b r n (L1 m fA fC fB fD) left Js,rqR (.slice fA 1 fB) [⟨Qo,[(1000,1000000)]⟩],Qa gs 264 #[.map (some b)]])) (fun wr=>wr.rangeLeft b r)
 case atStart=>exact⟨_,Js,S2⟩
 case round=>
  obtain⟨left,Js,hst⟩:=hrel;have g0:=(hst.out.pk [2]).blk.cell 0;have gl:=(hst.out.pk [2]).blk.lt;rcases hst.out.mnext (fun s:List UInt8=>Value.string ⟨s.toArray⟩) J8 invS 0 with⟨hl,m1⟩|⟨x,u,kl,W1,cnt',hkey,hlk,hMk,m1,m2,hlt,s1⟩
  ·have Z:=Kd hst.out.below
   clear hst hl;go_wp2;go_ret2;exact⟨b,rfl,Z.out⟩
  ·have heq:=hst.out.left_eq
   have g1:=(s1.pk [2]).blk.cell 0;have gl1:=(s1.pk [2]).blk.lt;have HQ:=Kd2 heq hlt;rcases sideM_inv hMk with rfl|rfl
   ·have y2:=s1.alloc 46 #[.string ⟨Qq.toArray⟩,.int .i64 1,.int .i64 0,.int .i64 0,.slice fA 1 fB,.string ⟨#[]⟩,.string ⟨#[]⟩,.string ⟨#[]⟩,.bool false]
    have kc:=conR_spec fA fB _ Qo m pl fC 0 fD [(1000,1000000)] gs b n (L1 m fA fC fB fD) (W1.alloc (.cells #[.string ⟨Qq.toArray⟩,.int .i64 1,.int .i64 0,.int .i64 0,.slice fA 1 fB,.string ⟨#[]⟩,.string ⟨#[]⟩,.string ⟨#[]⟩,.bool false] 46)) (y2.pk [2]).rq (y2.pk [1]).rg.map ((y2.pk [3]).blk.cell 0) (by decide) (sideM_B _ _ _ _ _) HH.out.1 HH.out.2.1 HH.out.2.2;have Y2:=Kd y2;clear hst hkey hlk hMk s1 y2 heq hlt;go_wp2_with fail;refine kc.mono ?_;rintro e w4 ⟨rfl,z4⟩;have S4:=Kd ((Y2.out.under z4).tail);clear kc z4 Y2 m1 m2 g0 gl g1 gl1;go_wp2
    go_roundw
    case rel=>exact⟨_,cnt',S4⟩
    case measure =>rw[HQ.out.1,S4.out.left_eq];exact HQ.out.2
   ·have y2:=s1.alloc 46 #[.string ⟨Qo.toArray⟩,.int .i64 1,.int .i64 m,.int .i64 0,.slice fC 0 fD,.string ⟨#[]⟩,.string ⟨#[]⟩,.string ⟨#[]⟩,.bool false]
    have kc:=con0_spec fC fD gs (W1.alloc (.cells #[.string ⟨Qo.toArray⟩,.int .i64 1,.int .i64 m,.int .i64 0,.slice fC 0 fD,.string ⟨#[]⟩,.string ⟨#[]⟩,.string ⟨#[]⟩,.bool false] 46));have Y2:=Kd y2;clear hst hkey hlk hMk s1 y2 heq hlt;go_wp2_with fail;refine kc.mono ?_;rintro e w4 ⟨rfl,z4⟩;have S4:=Kd ((Y2.out.under z4).tail);clear kc z4 Y2 m1 m2 g0 gl g1 gl1;go_wp2
    go_roundw
    case rel=>exact⟨_,cnt',S4⟩
    case measure =>rw[HQ.out.1,S4.out.left_eq];exact HQ.out.2
theorem M6 (A qA iA sA tA:Option Addr) (c qC iN iC sC tC:Nat) (F:Nat→Prop) (w:World) (h:Qx w F (.slice A 4 c) (Jl (.slice qA 1 qC))) (hs:Z9 w F sA ((Ke 1).flatMap Wm)) (ht:Z9 w F tA ((Ke 2).flatMap Wm)) (hg:Ji w):
 Calls prog 106 #[.agg #[.slice A 4 c,.slice iA iN iC],.slice sA 2 sC,.slice tA 2 tC] w fun e w'=>∃ u b1 b2 pA pC,e=.returned (.tuple #[.pointer (some ⟨u,0,none⟩),.int .i64 0])∧St w.heap.size w w' [Qa u 268 #[.map (some b1),.map (some b2),.slice sA 2 sC,.slice tA 2 tC,.slice pA 1 pC],Ja 1 (.slice pA 1 pC) 1 [.string ⟨Qo.toArray⟩]]:=by
 have y0:=(St.nil w).alloc 25 #[.slice A 4 c,.slice iA iN iC];obtain⟨W0,hW0⟩:∃ W,w.alloc (.cells #[.slice A 4 c,.slice iA iN iC] 25)=W:=⟨_,rfl⟩;rw[hW0] at y0;have k1:=Fh A qA iA sA c qC iN iC sC 1 1000 (.inr (.inl rfl)) (by decide) (by decide) (by decide) F W0 (h.below y0.below) (hs.below y0.below) (hg.below y0.below);have x0:=y0.blk.cell 0;have x1:=y0.blk.cell 1;have Y0:=Kd y0;have HH:=Kd4 h hs ht hg;clear h hs ht hg y0;go_enter func106,ntmps106;go_wp2_with fail;refine k1.mono ?_;rintro e w1 ⟨b1,rfl,z1⟩;have y1:=Y0.out.under z1;have k2:=Fh A qA iA tA c qC iN iC tC 2 2000 (.inr (.inr rfl)) (by decide) (by decide) (by decide) F w1 (HH.out.1.below y1.below) (HH.out.2.2.1.below y1.below) (HH.out.2.2.2.below y1.below);clear x0 x1;have x0:=y1.blk.cell 0;have x1:=y1.blk.cell 1;have Y1:=Kd y1;clear k1 z1 y1 Y0 hW0;go_wp2_with fail;refine k2.mono ?_;rintro e w2 ⟨b2,rfl,z2⟩;have y2:=(Y1.out.under z2).alloc 268 #[.map (some b1),.map (some b2),.slice sA 2 sC,.slice tA 2 tC,.slice none 0 0];have k3:=moves_ex sA tA sC tC F (w2.alloc (.cells #[.map (some b1),.map (some b2),.slice sA 2 sC,.slice tA 2 tC,.slice none 0 0] 268)) (HH.out.2.1.below y2.below) (HH.out.2.2.1.below y2.below);have Y2:=Kd y2;clear k2 z2 y2 Y1 x0 x1;go_wp2_with fail;refine k3.mono ?_;rintro e w3 ⟨mA,mC,rfl,z3⟩;have y3:=(Y2.out.graft z3).pk [1,0];obtain⟨u,hu⟩:∃ g,w2.heap.size=g:=⟨_,rfl⟩;rw[hu] at y3;obtain⟨mb,mo,rfl,-,-,nc⟩:=y3.swap.qu_cell (by decide);have n0:=nc 0 _ rfl;have n1:=nc 1 _ rfl;have n2:=nc 2 _ rfl;simp only[Nat.add_zero] at n0;have Y3:=Kd (y3.alloc 273 #[.string ⟨Qo.toArray⟩,.int .i64 1000,.int .i64 2000]);clear k3 z3 y3 nc Y2;go_wp2;refine wp_loop_rounds 2 ?_;rw[rounds_succ];go_wp2_with fail;obtain⟨v,hv⟩:∃ W,w3.alloc (.cells #[.string ⟨Qo.toArray⟩,.int .i64 1000,.int .i64 2000] 273)=W:=⟨_,rfl⟩;obtain⟨bx,hbx⟩:∃ g,w3.heap.size=g:=⟨_,rfl⟩;rw[hv,hbx] at Y3 ⊢;clear hv hbx hu n0 n1 n2;have c4:=(Y3.out.pk [1]).blk.cell 4;have ul:=(Y3.out.pk [1]).blk.lt;have C4:=Kd2 c4 ul;clear c4 ul;apply Fu (fun (pA:Option Addr) (pC:Nat) w'=>St w.heap.size w w' [Qa u 268 #[.map (some b1),.map (some b2),.slice sA 2 sC,.slice tA 2 tC,.slice pA 1 pC],Ja 1 (.slice pA 1 pC) 1 [.string ⟨Qo.toArray⟩]])
 case h=>
  obtain⟨c4,ul⟩:=C4.out;have hone:∀ u∈([.string ⟨Qo.toArray⟩]:List Value),u.oneCell'=true:=fun u hu=>by rw[List.mem_singleton.1 hu];rfl
  have HO:=Kd hone;have a1:0+1≤maxLen:=by decide
  have a2:(0+1)*16≤140737488355328:=by decide
  have s0:=Y3.out.blk.cell 0;have s1:=Y3.out.drew.blk.cell 0;have s2:=((Y3.out.alloc 9 #[.string ⟨Qo.toArray⟩]).drew.pk [1]).blk.cell 0;have s3:=((Y3.out.drew.alloc 9 #[.string ⟨Qo.toArray⟩]).pk [1]).blk.cell 0;replace s0:v.cell? ⟨bx,0,none⟩=some (.string ⟨Qo.toArray⟩):=s0;replace s1:v.drew.cell? ⟨bx,0,none⟩=some (.string ⟨Qo.toArray⟩):=s1;replace s2:(v.alloc (.cells #[.string ⟨Qo.toArray⟩] 9)).drew.cell? ⟨bx,0,none⟩=some (.string ⟨Qo.toArray⟩):=s2;replace s3:(v.drew.alloc (.cells #[.string ⟨Qo.toArray⟩] 9)).cell? ⟨bx,0,none⟩=some (.string ⟨Qo.toArray⟩):=s3;clear hone;refine wp_region_noPanic ?_;refine wp_region_held_drew (S:=(fun W'=>W'.cell? ⟨bx,0,none⟩=some (.string ⟨Qo.toArray⟩))) (by kernel_rfl) ?_ (fun hH0=>?_)
  ·(with_reducible exact s1)
  refine tk 0 52 hH0 ?_;refine tk 1 53 hH0 ?_;refine tk 2 54 hH0 ?_;refine tk 3 55 hH0 ?_;refine tk 5 57 hH0 ?_;refine tk 6 58 hH0 ?_;refine Zk [4,7] ?_;refine ad 56 (fun K hK=>?_) ?_;go_simp;refine hK.out _ _ ?_ (fun hH1=>?_)
  ·(with_reducible exact s1)
  clear hK K hH0
  try simp only[pu]
  refine Zk [7] ?_;refine an 59 fun K hK=>?_;go_simp;refine hK.out _ _ ?_ (fun hH2=>?_)
  ·(with_reducible exact s2)
  clear hK K hH1
  try simp only[pu]
  refine Zk [8] ?_;refine an 60 fun K hK=>?_
  (
   refine Ut 134 (((Y3.out.alloc 9 #[.string ⟨Qo.toArray⟩]).drew.quNil 1 9).pk [0,3,2]) underlying134 Xv rfl (Y3.out.alloc 9 #[.string ⟨Qo.toArray⟩]).drew.blkRd (by rfl) (by decide) HO.out a1 a2 _ _ (by rfl) (by rfl) (by rfl) (by rfl) ?_;intro A6 c6 w6 y6;have c4':=(y6.pk [1]).blk.cell 4;have f4':=(y6.pk [1]).blk.frozen 4;have s6:w6.cell? ⟨bx,0,none⟩=some (.string ⟨Qo.toArray⟩):=(y6.pk [2]).blk.cell 0;have y7:=(y6.pk [1,0,2]).set_ 4 (.slice A6 1 c6)
   have s7:(w6.setCell ⟨u,4,none⟩ (.slice A6 1 c6)).cell? ⟨bx,0,none⟩=some (.string ⟨Qo.toArray⟩):=(y7.pk [2]).blk.cell 0)
  refine hK.out _ _ ?_ (fun hH3=>?_)
  ·(with_reducible exact s6)
  clear hK K hH2
  try simp only[pu]
  refine tk 9 61 hH3 ?_;refine tk 10 62 hH3 ?_;refine Zk [11] ?_;refine az fun K hK=>?_;go_simp;refine hK.out _ _ ?_ (fun hH4=>?_)
  ·(with_reducible exact s7)
  clear hK K hH3
  try simp only[pu]
  refine dn ?_ _;rotate_left 1;refine an 59 fun K hK=>?_;go_simp;refine hK.out _ _ ?_ (fun hH5=>?_)
  ·(with_reducible exact s2)
  clear hK K hH0
  try simp only[pu]
  refine Zk [4] ?_;refine an 56 fun K hK=>?_;go_simp;refine hK.out _ _ ?_ (fun hH6=>?_)
  ·(with_reducible exact s2)
  clear hK K hH5
  try simp only[pu]
  refine Zk [8] ?_;refine an 60 fun K hK=>?_
  (
   refine Ut 134 (((Y3.out.alloc 9 #[.string ⟨Qo.toArray⟩]).drew.quNil 1 9).pk [0,3,2]) underlying134 Xv rfl (Y3.out.alloc 9 #[.string ⟨Qo.toArray⟩]).drew.blkRd (by rfl) (by decide) HO.out a1 a2 _ _ (by rfl) (by rfl) (by rfl) (by rfl) ?_;intro A6 c6 w6 y6;have c4':=(y6.pk [1]).blk.cell 4;have f4':=(y6.pk [1]).blk.frozen 4;have s6:w6.cell? ⟨bx,0,none⟩=some (.string ⟨Qo.toArray⟩):=(y6.pk [2]).blk.cell 0;have y7:=(y6.pk [1,0,2]).set_ 4 (.slice A6 1 c6)
   have s7:(w6.setCell ⟨u,4,none⟩ (.slice A6 1 c6)).cell? ⟨bx,0,none⟩=some (.string ⟨Qo.toArray⟩):=(y7.pk [2]).blk.cell 0)
  refine hK.out _ _ ?_ (fun hH7=>?_)
  ·(with_reducible exact s6)
  clear hK K hH6
  try simp only[pu]
  refine tk 9 61 hH7 ?_;refine tk 10 62 hH7 ?_;refine Zk [11] ?_;refine az fun K hK=>?_;go_simp;refine hK.out _ _ ?_ (fun hH8=>?_)
  ·(with_reducible exact s7)
  clear hK K hH7
  try simp only[pu]
  refine dn ?_ _
  all_goals(refine NoPanic.normal ?_)
  all_goals(
   simp only[List.setIfInBounds_toArray,List.set_cons_zero,List.set_cons_succ] at y7
   exact⟨rfl,A6,c6,rfl,y7.pk [0,1]⟩)
 case k =>intro pA pC w7 y7;have Y7:=Kd y7;clear y7;go_wp2;rw[rounds_succ];go_wp2;go_ret2;exact⟨u,b1,b2,pA,pC,rfl,Y7.out⟩
open Go.RowKit Go.Shelf Go.Sort
theorem Ld (A:Option Addr) (n c:Nat) (xs:List Value) (F:Nat→Prop) (w:World) (hr:Z9 w F A xs) (hone:∀ u∈xs,u.oneCell'=true) (hfl:xs.length=n*1) (hL:n≤1048576):
 Calls prog 167 #[.slice A n c] w fun e w'=>∃ A' c',e=.returned (.slice A' n c')∧St w.heap.size w w' [Qh 9 1 (.slice A' n c') n xs]:=by
 have kn:=fun w=>Lib.run_eql_slice_nil (P:=prog) w 134 9 A n c 0 0 underlying134
 cases A with
 | none=>
   obtain rfl:xs=[]:=by
    rcases hr with hr|⟨b,off,e,-⟩
    ·exact hr
    ·cases e
   obtain rfl:n=0:=by rw[List.length_nil] at hfl;omega
   clear hr hone hL hfl;go_enter func167,ntmps167;go_wp2;go_ret;exact⟨none,0,rfl,(St.nil w).new_own (Below.refl _ w) ⟨rfl,.inl ⟨rfl,rfl⟩⟩⟩
 | some a=>
   have y0:St w.heap.size w (w.alloc (.cells #[] 9)) [Qh 9 1 (.slice (some ⟨w.heap.size,0,none⟩) 0 0) 0 []]:=(St.nil w).new_own (b1 w _) (World.ownsRow_lit w #[] 0 (Nat.le_refl _) (by decide) rfl)
   have hnews:∀ j u,xs[j]?=some u→(w.alloc (.cells #[] 9)).cell? (a.add j)=some u:=fun j u hu=>by
    rcases hr with hr|⟨b,off,e,-,hb,hc⟩
    ·rw[hr] at hu
     cases hu
    ·obtain rfl:=Option.some.inj e
     obtain⟨hj,rfl⟩:=List.getElem?_eq_some_iff.1 hu;rw[Addr.add_lit,(b1 w _).cell hb];exact hc j hj
   have Y0:=Kd y0;have HN:=Kd hnews;have HO:=Kd hone;have q1:0+n≤maxLen :=(by unfold maxLen;omega);have q2:(0+n)*16≤140737488355328 :=(by omega);clear hr y0 hnews hone;go_enter func167,ntmps167;go_wp2_with (at_builtin;go_must (refine W9 134 Y0.out underlying134 Xv rfl (by decide) rfl _ _ rfl rfl a n c xs rfl hfl HN.out HO.out q1 q2 ?_);intro v1 w1 h1);have h1:St w.heap.size w w1 [Qh 9 1 v1 n xs] :=(by simpa using h1);obtain⟨A1,c1,rfl,-,-⟩:=Q4 h1.own;have H1:=Kd h1;clear h1;go_wp2;go_ret;exact⟨A1,c1,rfl,H1.out⟩
theorem Si:(prog.info? 137).map (·.size)=some 2:=by kernel_rfl
theorem needs_ex (u:Nat) (w:World):Calls prog 168 #[.pointer (some ⟨u,0,none⟩),.string ⟨Qo.toArray⟩,.string ⟨Qo.toArray⟩] w fun e w'=>e=.returned (.bool false)∧Below w.heap.size w w':=by
 go_enter func168,ntmps168;go_wp2_with fail;refine wp_region_noPanic ?_;refine wp_region_held_drew (S:=(fun _=>True)) (by kernel_rfl) ?_ (fun hH0=>?_)
 ·(trivial)
 refine tk 0 8 hH0 ?_;refine tk 1 9 hH0 ?_;refine tk 2 10 hH0 ?_;refine tk 3 11 hH0 ?_;refine tu 4 12 hH0 ?_;refine tu 5 13 hH0 ?_;refine tu 6 14 hH0 ?_;refine tu 7 15 hH0 ?_;refine tu 8 16 hH0 ?_;refine tu 9 17 hH0 ?_;refine tu 10 18 hH0 ?_;refine tu 11 19 hH0 ?_;refine tu 12 20 hH0 ?_;refine tu 13 21 hH0 ?_;refine tu 14 22 hH0 ?_;refine tu 15 23 hH0 ?_;refine tu 16 24 hH0 ?_;refine tu 17 25 hH0 ?_;refine tu 18 26 hH0 ?_;refine tu 19 27 hH0 ?_;refine tu 20 28 hH0 ?_;refine tu 21 29 hH0 ?_;refine tu 22 30 hH0 ?_;refine tu 23 31 hH0 ?_;refine tu 24 32 hH0 ?_;refine tu 25 33 hH0 ?_;refine tu 26 34 hH0 ?_;refine tu 27 35 hH0 ?_;refine tu 28 36 hH0 ?_;refine tu 29 37 hH0 ?_;refine tk 30 38 hH0 ?_;refine tk 31 6 hH0 ?_;refine dn ?_ _
 all_goals(refine NoPanic.normal ?_)
 go_wp2;go_ret;exact⟨rfl,(Below.refl _ w).drew⟩
theorem ugraph_ex (u:Nat) (pA:Option Addr) (pC:Nat) (G:Nat→Prop) (w:World) (hu:w.cell? ⟨u,4,none⟩=some (.slice pA 1 pC)) (hp:Z9 w G pA [.string ⟨Qo.toArray⟩]):
 Calls prog 107 #[.pointer (some ⟨u,0,none⟩)] w fun e w'=>∃ gA gC,e=.returned (.agg #[.slice gA 1 gC,.slice none 0 0])∧St w.heap.size w w' [Qh 9 1 (.slice gA 1 gC) 1 [.string ⟨Qo.toArray⟩]]:=by
 have hul:=World.block_lt_of_cell? w _ hu;have y0:=(St.nil w).alloc 137 #[.slice none 0 0,.slice none 0 0];obtain⟨W0,hW0⟩:∃ W,w.alloc (.cells #[.slice none 0 0,.slice none 0 0] 137)=W:=⟨_,rfl⟩;rw[hW0] at y0;have c4:=(y0.below.cell (p:=⟨u,4,none⟩) hul).trans hu;have k1:=Ld pA 1 pC _ G W0 (hp.below y0.below) (fun u hu=>by rw[List.mem_singleton.1 hu];rfl) rfl (by decide);have Y0:=Kd y0;have HP:=Kd hp
 obtain⟨pb,po,rfl,-,hpb,-⟩:∃ b off,pA=some ⟨b,off,none⟩∧G b∧b<w.heap.size∧True:=by
  rcases hp with h|⟨b,off,e,h1,h2,-⟩
  ·cases h
  ·exact⟨b,off,e,h1,h2,trivial⟩
 have hc:∀ W,Below w.heap.size w W→W.cell? ⟨u,4,none⟩=some (.slice (some ⟨pb,po,none⟩) 1 pC)∧W.cell? ⟨pb,po,none⟩=some (.string ⟨Qo.toArray⟩):=fun W hW=>by
  refine⟨(hW.cell (p:=⟨u,4,none⟩) hul).trans hu,?_⟩;rcases HP.out.below hW with h|⟨_,_,e,-,-,h3⟩
  ·cases h
  ·cases e
   exact h3 0 (Nat.succ_pos 0)
 have HC:=Kd hc;clear hu hp y0 hc;go_enter func107,ntmps107;go_wp2_with fail;refine k1.mono ?_;rintro e w1 ⟨gA,gC,rfl,z1⟩;have y1:=(Y0.out.graft z1).alloc 137 #[.slice gA 1 gC,.slice none 0 0];obtain⟨q4,q0⟩:=HC.out w1 (Y0.out.graft z1).below;have ql:=Nat.lt_of_lt_of_le hul (Y0.out.graft z1).below.size;have pl:=Nat.lt_of_lt_of_le hpb (Y0.out.graft z1).below.size;have Y1:=Kd y1;clear k1 c4 z1 y1 Y0 hW0;go_wp2;refine wp_loop_rounds 2 ?_;rw[rounds_succ];go_wp2;refine wp_loop_rounds 2 ?_;rw[rounds_succ];go_wp2_with fail;refine(needs_ex _ _).mono ?_;rintro e w2 ⟨rfl,z2⟩;have y2:=Y1.out.under z2;have d0:=y2.blk.cell 0;have d1:=y2.blk.cell 1;have yt:=y2.pk [2,1];have t0:=yt.blk.cell 0;have t1:=yt.blk.cell 1;have f0:=yt.blk.frozen 0;have f1:=yt.blk.frozen 1;have y3:=(yt.set_ 0 (.slice gA 1 gC)).set_ 1 (.slice none 0 0);simp only[List.setIfInBounds_toArray,List.set_cons_zero,List.set_cons_succ] at y3;have Y3:=Kd y3;clear z2 y2 yt y3 Y1 q4 q0 ql pl;generalize w1.heap.size=gb at d0 d1 ⊢;go_wp2;rw[rounds_succ];go_wp2;rw[rounds_succ];go_wp2;refine bodyPost_ret (Jc rfl _ _ _ _ _ _ _ rfl Y3.out.blk underlying137 rfl Si) rfl ?_;exact⟨gA,gC,rfl,Y3.out.tail⟩
theorem wgraph_ex (A qA iA sA tA:Option Addr) (c qC iN iC sC tC:Nat) (F:Nat→Prop) (w:World) (h:Qx w F (.slice A 4 c) (Jl (.slice qA 1 qC))) (hs:Z9 w F sA ((Ke 1).flatMap Wm)) (ht:Z9 w F tA ((Ke 2).flatMap Wm)) (hg:Ji w):
 Calls prog 65 #[.agg #[.slice A 4 c,.slice iA iN iC],.slice sA 2 sC,.slice tA 2 tC] w fun e w'=>∃ gA gC,e=.returned (.tuple #[.agg #[.slice gA 1 gC,.slice none 0 0],.int .i64 0])∧St w.heap.size w w' [Qh 9 1 (.slice gA 1 gC) 1 [.string ⟨Qo.toArray⟩]]:=by
 have y0:=((St.nil w).alloc 25 #[.slice A 4 c,.slice iA iN iC]).alloc 137 #[.slice none 0 0,.slice none 0 0];simp only[World.size_alloc] at y0;obtain⟨W0,hW0⟩:∃ W,(w.alloc (.cells #[.slice A 4 c,.slice iA iN iC] 25)).alloc (.cells #[.slice none 0 0,.slice none 0 0] 137)=W:=⟨_,rfl⟩;rw[hW0] at y0;have k1:=M6 A qA iA sA tA c qC iN iC sC tC F W0 (h.below y0.below) (hs.below y0.below) (ht.below y0.below) (hg.below y0.below);have x0:=(y0.pk [1]).blk.cell 0;have x1:=(y0.pk [1]).blk.cell 1;have Y0:=Kd y0;clear h hs ht hg y0;go_enter func65,ntmps65;go_wp2_with fail;refine k1.mono ?_;rintro e w1 ⟨u,b1,b2,pA,pC,rfl,z1⟩;have y1:=Y0.out.graft z1;have k2:=ugraph_ex u pA pC _ w1 (y1.blk.cell 4) ((y1.pk [1]).quRd rfl);have Y1:=Kd y1;clear k1 x0 x1 z1 y1 Y0 hW0;go_wp2_with fail;refine k2.mono ?_;rintro e w2 ⟨gA,gC,rfl,z2⟩;have y2:=(Y1.out.graft z2).pk [3,0];have t0:=y2.blk.cell 0;have t1:=y2.blk.cell 1;have f0:=y2.blk.frozen 0;have f1:=y2.blk.frozen 1;have y3:=(y2.set_ 0 (.slice gA 1 gC)).set_ 1 (.slice none 0 0);simp only[List.setIfInBounds_toArray,List.set_cons_zero,List.set_cons_succ] at y3;have Y3:=Kd y3;clear k2 z2 y2 y3 Y1;go_wp2;refine bodyPost_ret (Jv rfl _ _ _ _ _ _ _ rfl Y3.out.blk underlying137 rfl Si) rfl ?_;exact⟨gA,gC,rfl,Y3.out.tail⟩
theorem mul64_ex (w:World):Calls prog 224 #[.int .u64 1,.int .u64 1] w fun e w'=>e=.returned (.tuple #[.int .u64 0,.int .u64 1])∧w'=w:=by go_enter func224,ntmps224;go_wp2;go_ret2;exact⟨rfl,rfl⟩
theorem mul_ex (w:World):Calls prog 172 #[.int .u64 1,.int .u64 1] w fun e w'=>e=.returned (.tuple #[.int .u64 0,.int .u64 1])∧w'=w:=by go_enter func172,ntmps172;go_wp2_with fail;refine(mul64_ex w).mono ?_;rintro e w9 ⟨rfl,hw⟩;obtain rfl:w=w9:=hw.symm;go_wp2;go_ret2;exact⟨rfl,rfl⟩
theorem rep_ex (gx:Nat) (w:World) (hx:w.cell? ⟨gx,0,none⟩=some (.int .i64 (-1))):
 Calls prog 113 #[.slice (some ⟨gx,0,none⟩) 1 1,.int .i64 1] w fun e w'=>∃ g,e=.returned (.slice (some ⟨g,0,none⟩) 1 1)∧St w.heap.size w w' [Qh 3 1 (.slice (some ⟨g,0,none⟩) 1 1) 1 [.int .i64 (-1)]]:=by
 have hl:=World.block_lt_of_cell? w _ hx;obtain⟨W1,hmk,y1⟩:=(St.nil w).madeN 1 (by decide);have hmk:(Instr.makeSlice 54 (.int .i64 1) (.int .i64 1)).run prog w=.ok (.slice (some ⟨w.heap.size,0,none⟩) 1 1) W1:=hmk;have y1:St w.heap.size w W1 [Qh 3 1 (.slice (some ⟨w.heap.size,0,none⟩) 1 1) 1 [.int .i64 0]]:=y1;obtain⟨q0,f0⟩:=y1.cellAt (j:=0) (u:=.int .i64 0) rfl;have hx1:=(y1.below.cell (p:=⟨gx,0,none⟩) hl).trans hx
 have hcp:∀ ty,(Builtin.copy_ #[54,54] ty #[.slice (some ⟨w.heap.size,0,none⟩) 1 1,.slice (some ⟨gx,0,none⟩) 1 1]).run prog W1=.ok (.int .i64 1) (W1.setCell ⟨w.heap.size,0,none⟩ (.int .i64 (-1))):=fun ty=>by
  have:=run_copy_cells (P:=prog) W1 54 54 ty 3 w.heap.size 0 1 1 ⟨gx,0,none⟩ 1 1 [.int .i64 (-1)] underlying54 (by kernel_rfl) rfl (fun j v hv=>by
   rw[Addr.add_lit,Nat.zero_add]
   match j,hv with
   | 0,hv=>
     injection hv with hv;rw[←hv]
     exact hx1) (fun j hj=>by
   obtain rfl:j=0:=by simpa using hj
   rw[Nat.add_zero,q0]
   rfl) (fun j hj=>by
   obtain rfl:j=0:=by simpa using hj
   exact f0) (fun v hv=>by rw[List.mem_singleton.1 hv];rfl)
  exact this
 have y2:=y1.storeO 0 (.int .i64 (-1));have y2:St w.heap.size w (W1.setCell ⟨w.heap.size,0,none⟩ (.int .i64 (-1))) [Qh 3 1 (.slice (some ⟨w.heap.size,0,none⟩) 1 1) 1 [.int .i64 (-1)]]:=y2;have Y2:=Kd y2;clear y1 y2 hx;go_enter func113,ntmps113;go_wp2_with fail;refine(mul_ex w).mono ?_;rintro e w9 ⟨rfl,hw⟩;obtain rfl:w=w9:=hw.symm;go_wp2;refine wp_loop_once ?_;go_wp2;go_ret;exact⟨_,rfl,Y2.out⟩
theorem edge0_ex (fv:Value) (w:World):Calls prog 169 #[.slice none 0 0,fv] w fun e w'=>e=.returned (.int .i64 (-1))∧w'=w:=by go_enter func169,ntmps169;go_wp2;refine wp_loop_once ?_;go_wp2;go_ret;exact⟨rfl,rfl⟩
theorem edge1_ex (fv:Value) (w:World):Calls prog 109 #[.slice none 0 0,fv] w fun e w'=>e=.returned (.bool false)∧w'=w:=by go_enter func109,ntmps109;go_wp2_with fail;refine(edge0_ex fv w).mono ?_;rintro e w9 ⟨rfl,hw⟩;obtain rfl:w=w9:=hw.symm;go_wp2;go_ret;exact⟨rfl,rfl⟩
theorem gvalid_ex (gA:Option Addr) (gC:Nat) (w:World):Calls prog 66 #[.agg #[.slice gA 1 gC,.slice none 0 0]] w fun e w'=>e=.returned (.bool true)∧Below w.heap.size w w':=by have y0:=((St.nil w).alloc 137 #[.slice gA 1 gC,.slice none 0 0]).alloc 87 #[.func (.func 108) #[] #[.pointer (some ⟨w.heap.size,0,none⟩)]];have Y0:=Kd y0.below;have ke:=edge1_ex;clear y0;go_enter func66,ntmps66;go_wp2_with fail;refine(ke _ _).mono ?_;rintro e w9 ⟨rfl,rfl⟩;go_wp2;go_ret;exact⟨rfl,Y0.out⟩
theorem comp0_ex (A:Option Addr) (c:Nat) (w:World):Calls prog 170 #[.slice A 0 c] w fun e w'=>e=.returned (.slice A 0 c)∧w'=w:=by go_enter func170,ntmps170;go_wp2;go_ret;exact⟨rfl,rfl⟩
theorem eqI_ex (a b:Nat) (c d:Nat) (w:World) (ha:w.cell? ⟨a,0,none⟩=some (.int .i64 1)) (hb:w.cell? ⟨b,0,none⟩=some (.int .i64 1)):Calls prog 18 #[.slice (some ⟨a,0,none⟩) 1 c,.slice (some ⟨b,0,none⟩) 1 d] w fun e w'=>e=.returned (.bool true)∧Below w.heap.size w w':=by
 go_enter func18,ntmps18;go_wp2;refine wp_loop_rounds 2 ?_;rw[rounds_succ];go_wp2_with fail;refine wp_region_noPanic ?_;refine wp_region_held_drew (S:=(fun w'=>w'.cell? ⟨a,0,none⟩=some (.int .i64 1)∧w'.cell? ⟨b,0,none⟩=some (.int .i64 1))) (by kernel_rfl) ?_ (fun hH0=>?_)
 ·(exact⟨ha,hb⟩)
 refine tk 0 16 hH0 ?_;refine tk 1 17 hH0 ?_;refine tk 2 18 hH0 ?_;refine tk 3 19 hH0 ?_;refine tk 4 20 hH0 ?_;refine tk 5 21 hH0 ?_;refine tk 6 22 hH0 ?_;refine tk 7 23 hH0 ?_;refine tk 8 24 hH0 ?_;refine dn ?_ _
 all_goals(refine NoPanic.normal ?_)
 go_wp2;rw[rounds_succ];go_wp2;go_ret;exact⟨rfl,(Below.refl _ w).drew⟩
def objR (g:Nat) (o:Obj):Q3 where
 P w F:=w.heap[g]?=some o∧F=(fun k=>k=g)
 lt h k hk:=by obtain⟨hb,rfl⟩:=h;subst hk;exact(Array.getElem?_eq_some_iff.1 hb).1
 mod h hm hG:=by obtain⟨hb,rfl⟩:=h;exact⟨(hm.block _ (Array.getElem?_eq_some_iff.1 hb).1 (hG _ rfl)).trans hb,rfl⟩
section
variable {lo:Nat} {w0 w w':World} {Rs:List Q3}
theorem St.newObj (h:St lo w0 w Rs) (o:Obj):St lo w0 (w.alloc o) (objR w.heap.size o::Rs):=
 h.new ((Below.refl _ w).alloc (Nat.le_refl _) _) ⟨World.alloc_heap_new w o,rfl⟩ (fun k hk=>by subst hk;exact Nat.le_refl _)
theorem St.obj {g:Nat} {o:Obj} (h:St lo w0 w (objR g o::Rs)):w.heap[g]?=some o:=by obtain⟨_,_,F,V,h1,_⟩:=h;exact h1.1
theorem St.putObj {g:Nat} {o:Obj} (h:St lo w0 w (objR g o::Rs)) (o':Obj):St lo w0 (w.putObj g o') (objR g o'::Rs):=by obtain⟨F,h1,h2,h3⟩:=h.open;obtain⟨hb,rfl⟩:=h1;have hl:=(Array.getElem?_eq_some_iff.1 hb).1;exact h3 (F':=fun k=>k=g) _ ⟨rfl,rfl,rfl,by simp[World.putObj],fun k hk hn=>World.putObj_heap_other hn⟩ ⟨World.putObj_heap_same hl,rfl⟩ (fun k hk=>.inl hk)
theorem G7 {g:Operand} {ps:Array Tmp} {assign body:Code} {Q:Exit→Act→World→Prop} {a:Act} {gf:Nat} {lb:Array Value} (h:St lo w0 w Rs) (hg:a.eval g=.func (.func gf) #[] lb) (eg:∀ args w,(callFunc gf args).run prog w=.ok (.enter gf args) w)
 (hcall:∀ W,Below w.heap.size w W→Calls prog gf (#[.func (.yield (w.heap.size+1)) #[] #[]]++lb) W fun e w'=>e=.returned (.tuple #[])∧Below W.heap.size W w')
 (hk:∀ w',St lo w0 w' (objR w.heap.size (.deferred (some []))::Rs)→Q .normal { a with defers:={ target:=.collected w.heap.size,args:=#[] }::a.defers } w'):(Code.rangeFunc g ps assign body).wp prog Q a w:=by
 refine wpIn_wide (n:=5).1 (wpIn_rangeFunc ?_);intro fn hfn;obtain⟨W1,hW1⟩:∃ W1,(w.alloc (.deferred (some []))).alloc (.loop { state:=.ready,pending:=none,fn,tmps:=a.tmps,params:=ps,assign,body,defers:=w.heap.size })=W1:=⟨_,rfl⟩;have y2:=(h.newObj (.deferred (some []))).newObj (.loop { state:=.ready,pending:=none,fn,tmps:=a.tmps,params:=ps,assign,body,defers:=w.heap.size });rw[World.size_alloc,hW1] at y2;have hb:Below w.heap.size w W1:=by rw[←hW1];exact((Below.refl _ w).alloc (Nat.le_refl _) _).alloc (by simp) _
 refine⟨w.heap.size+1,[{ target:=.collected w.heap.size,args:=#[] }],W1,{ target:=.fn (.func gf) lb,args:=#[.func (.yield (w.heap.size+1)) #[] #[]] },W1,gf,#[.func (.yield (w.heap.size+1)) #[] #[]]++lb,W1,?_,?_,fun _ _=>trivial,?_,fun _=>by decide,?_⟩
 ·rw[←hW1]
  exact run_enterLoop_outer _ _ _ _ _
 ·simp only[resolve,hg]
  simp[go_sem]
 ·simp[invoke,go_sem,eg]
 ·refine(callsIn_wide.2 (hcall W1 hb)).mono ?_
  rintro e w' ⟨rfl,hb'⟩;have y3:=y2.under hb';refine⟨none,_,run_endLoop y3.obj (by simp),?_⟩;exact hk _ (y3.putObj _).tail
end
theorem Ka {f:FuncId} {fn:Func} {c:Code} {args:Array Value} {w:World} {R:Ending→World→Prop} (hf:prog.funcs[f]?=some fn) (hb:fn.body=some c)
 (h:c.wp prog (bodyPostM Fence.wide 5 prog fn R) { tmps:=args++Array.replicate (fn.ntmps-args.size) undef,defers:=[] } w):Calls prog f args w R:=
 (callsIn_wide (n:=5)).1 (callsIn_of_wp_marks hf hb trivial (wpIn_wide.2 h) rfl)
theorem Cs {lo:Nat} {w0 w:World} {Rs:List Q3} {fn:Func} {R:Ending→World→Prop} {a:Act} {D:Nat} {v:Value} (h:St lo w0 w (objR D (.deferred (some []))::Rs)) (hd:a.defers=[{ target:=.collected D,args:=#[] }]) (hr:∀ W,(results fn a.tmps).run prog W=.ok v W)
 (hR:∀ W,St lo w0 W Rs→R (.returned v) W):bodyPostM Fence.wide 5 prog fn R .ret a w:=by
 show LeavesInM _ _ _ _ _ _ a.defers _ _;rw[hd];refine⟨by simp,.inl ⟨_,_,rfl,run_takeDeferred h.obj,?_⟩⟩;exact⟨_,hr _,hR _ (h.putObj _).tail⟩
theorem Ct {lo:Nat} {w0 w:World} {Rs:List Q3} {fn:Func} {R:Ending→World→Prop} {a:Act} {D:Nat} {v:Value} (h:St lo w0 w (objR D (.deferred (some []))::Rs)) (hd:a.defers=[{ target:=.collected D,args:=#[] }]) (hr:∀ W,(results fn a.tmps).run prog W=.ok v W)
 (hR:∀ W,St lo w0 W Rs→R (.returned v) W):bodyPostM Fence.wide 5 prog fn R .normal a w:=Cs h hd hr hR
theorem Gp:(prog.info? 54).map (fun i=>(i.zero,i.size,i.bytes))=some (some (.slice none 0 0),1,24):=by kernel_rfl
theorem St.madeOne {lo:Nat} {w0 w:World} {Rs:List Q3} (h:St lo w0 w Rs) (t e:TypeId) (z:Value) (bytes:Nat) (h1:prog.underlying t=some (.slice e)) (hi:(prog.info? e).map (fun i=>(i.zero,i.size,i.bytes))=some (some z,1,bytes)) (hz:z.cells=#[z]) (hb:bytes≤1024):
 ∃ w',(Instr.makeSlice t (.int .i64 1) (.int .i64 1)).run prog w=.ok (.slice (some ⟨w.heap.size,0,none⟩) 1 1) w'∧St lo w0 w' (Qh e 1 (.slice (some ⟨w.heap.size,0,none⟩) 1 1) 1 [z]::Rs):=
 ⟨_,run_make_row' (P:=prog) t e z bytes h1 hi hz .i64 .i64 1 (by omega) (by omega) w,h.new_own (b1 w _) (by
   have e1:(madeCells #[z] 1).toList=[z]:=toList_madeCells_one z 1;have:=World.ownsRow_lit (e:=e) (size:=1) w (madeCells #[z] 1) 1 (Nat.le_refl _) (by decide) (by rw[size_madeCells]);rw[e1] at this
   exact this)⟩
theorem newSucc_ex (gA:Option Addr) (gC:Nat) (w:World):Calls prog 111 #[.agg #[.slice gA 1 gC,.slice none 0 0]] w fun e w'=>∃ sb,e=.returned (.slice (some ⟨sb,0,none⟩) 1 1)∧St w.heap.size w w' [Qh 54 1 (.slice (some ⟨sb,0,none⟩) 1 1) 1 [.slice none 0 0]]:=by
 have y0:=(St.nil w).alloc 137 #[.slice gA 1 gC,.slice none 0 0];obtain⟨W1,hmk,y1⟩:=y0.madeOne 142 54 (.slice none 0 0) 24 underlying142 Gp rfl (by decide);have x1:=(y1.pk [1]).blk.cell 1;obtain⟨q0,f0⟩:=y1.cellAt (j:=0) (u:=.slice none 0 0) rfl;simp only[World.size_alloc] at hmk y1 q0 f0;have Y1:=Kd y1;have ks:=AnyM.slices_Sort_int_none Tryz.sortI none 0 W1
 change Calls prog 69 _ _ _ at ks
 have kc:=comp0_ex none 0 W1;have y2:=y1.storeO 0 (.slice none 0 0);have Y2:=Kd (y2.pk [0]);clear y0 y1 y2;go_enter func111,ntmps111;go_wp2;refine wp_loop_once ?_;go_wp2;refine wp_loop_rounds 2 ?_;rw[rounds_succ];go_wp2_with fail;refine ks.mono ?_;rintro e w9 ⟨rfl,hw⟩;obtain rfl:W1=w9:=hw.symm;go_wp2_with fail;refine kc.mono ?_;rintro e w9 ⟨rfl,hw⟩;obtain rfl:W1=w9:=hw.symm;clear ks kc;go_wp2;rw[rounds_succ];go_wp2;go_ret;exact⟨_,rfl,Y2.out⟩
theorem of_ex (sb:Nat) (w:World):Calls prog 114 #[.slice (some ⟨sb,0,none⟩) 1 1,.int .i64 0,.int .i64 0] w fun e w'=>∃ p1 p2 p3,e=.returned (.func (.func 173) #[] #[.pointer (some ⟨p1,0,none⟩),.pointer (some ⟨p2,0,none⟩),.pointer (some ⟨p3,0,none⟩)])∧St w.heap.size w w' [Qa p3 3 #[.int .i64 0],Qa p2 3 #[.int .i64 0],Qa p1 142 #[.slice (some ⟨sb,0,none⟩) 1 1]]:=by have y:=(((St.nil w).alloc 142 #[.slice (some ⟨sb,0,none⟩) 1 1]).alloc 3 #[.int .i64 0]).alloc 3 #[.int .i64 0];simp only[World.size_alloc] at y;have Y:=Kd y;clear y;go_enter func114,ntmps114;go_wp2;go_ret;exact⟨_,_,_,rfl,Y.out⟩
theorem of1_ex (sb p1 p2 p3:Nat) (yv:Value) (w:World) (h1:w.cell? ⟨p1,0,none⟩=some (.slice (some ⟨sb,0,none⟩) 1 1)) (h2:w.cell? ⟨p2,0,none⟩=some (.int .i64 0)) (h3:w.cell? ⟨sb,0,none⟩=some (.slice none 0 0)):
 Calls prog 173 #[yv,.pointer (some ⟨p1,0,none⟩),.pointer (some ⟨p2,0,none⟩),.pointer (some ⟨p3,0,none⟩)] w fun e w'=>e=.returned (.tuple #[])∧Below w.heap.size w w':=by
 go_enter func173,ntmps173;go_wp2;refine wp_loop_once ?_;go_wp2;exact bodyPost_end (results_none rfl _ _ _) rfl ⟨rfl,Below.refl _ w⟩
theorem visit1_ex (pn pt ps pi pl pc px pv gi gl gc sb lo:Nat) (w0 w:World) (X:Q3) (hS0:∀ W,Below lo w0 W→W.cell? ⟨sb,0,none⟩=some (.slice none 0 0)) (y:St lo w0 w [Qa pn 3 #[.int .i64 1],Qa pt 3 #[.int .i64 0],Qa ps 54 #[.slice none 0 0],Qa pi 54 #[.slice (some ⟨gi,0,none⟩) 1 1],Qa pl 54 #[.slice (some ⟨gl,0,none⟩) 1 1],Qa pc 54 #[.slice (some ⟨gc,0,none⟩) 1 1],Qa px 142 #[.slice (some ⟨sb,0,none⟩) 1 1],Qh 3 1 (.slice (some ⟨gi,0,none⟩) 1 1) 1 [.int .i64 0],Qh 3 1 (.slice (some ⟨gl,0,none⟩) 1 1) 1 [.int .i64 0],Qh 3 1 (.slice (some ⟨gc,0,none⟩) 1 1) 1 [.int .i64 (-1)],X]):
 Calls prog 171 #[.int .i64 0,.pointer (some ⟨pn,0,none⟩),.pointer (some ⟨pi,0,none⟩),.pointer (some ⟨pl,0,none⟩),.pointer (some ⟨ps,0,none⟩),.pointer (some ⟨px,0,none⟩),.pointer (some ⟨pv,0,none⟩),.pointer (some ⟨pc,0,none⟩),.pointer (some ⟨pt,0,none⟩)] w fun e w'=>e=.returned (.tuple #[])∧St lo w0 w' [Qa pt 3 #[.int .i64 1],Qa pc 54 #[.slice (some ⟨gc,0,none⟩) 1 1],Qh 3 1 (.slice (some ⟨gc,0,none⟩) 1 1) 1 [.int .i64 0],X]:=by
 have y0:=y.alloc 3 #[.int .i64 0];have Y0:=Kd y0;obtain⟨v0,hv⟩:∃ W,w.alloc (.cells #[.int .i64 0] 3)=W:=⟨_,rfl⟩;obtain⟨nb,hnb⟩:∃ g,w.heap.size=g:=⟨_,rfl⟩;clear y y0;refine Ka func171 rfl ?_;simp only[ntmps171,List.size_toArray,List.length_cons,List.length_nil,Nat.reduceAdd,Nat.reduceSub,Array.replicate_succ,Array.replicate_zero,List.push_toArray,List.append_toArray,List.nil_append,List.cons_append];go_wp2_with fail;rw[hv,hnb] at Y0;clear hv hnb;have hS:∀ W',St lo w0 W' [Qa pi 54 #[.slice (some ⟨gi,0,none⟩) 1 1],Qa pl 54 #[.slice (some ⟨gl,0,none⟩) 1 1],Qa nb 3 #[.int .i64 0],Qa pn 3 #[.int .i64 1]]→W'.cell? ⟨pi,0,none⟩=some (.slice (some ⟨gi,0,none⟩) 1 1)∧W'.cell? ⟨pl,0,none⟩=some (.slice (some ⟨gl,0,none⟩) 1 1)∧W'.cell? ⟨nb,0,none⟩=some (.int .i64 0)∧W'.cell? ⟨pn,0,none⟩=some (.int .i64 1):=fun W' y=>⟨y.blk.cell 0,(y.pk [1]).blk.cell 0,(y.pk [2]).blk.cell 0,(y.pk [3]).blk.cell 0⟩;have s0:=hS _ (Y0.out.pk [4,5,0,1]);have s1:=hS _ (Y0.out.drew.pk [4,5,0,1]);have y1:=(Y0.out.pk [8,0,1,2,3,4,5,6,7,9,10,11]);obtain⟨q1,f1⟩:=y1.cellAt (j:=0) (u:=.int .i64 0) rfl;obtain⟨q1d,f1d⟩:=y1.drew.cellAt (j:=0) (u:=.int .i64 0) rfl;have y2:=y1.storeO 0 (.int .i64 1);have s2:=hS _ (y2.drew.pk [5,6,1,2]);have y3:=(y2.pk [9,0,1,2,3,4,5,6,7,8,10,11]);obtain⟨q2,f2⟩:=y3.cellAt (j:=0) (u:=.int .i64 0) rfl;obtain⟨q2d,f2d⟩:=y3.drew.cellAt (j:=0) (u:=.int .i64 0) rfl;have y5:=y3.storeO 0 (.int .i64 1);have y4:=y5.drew;have s3:=hS _ (y4.pk [6,7,2,3]);have Y4:=Kd y4;clear hS y1 y2 y3 y4 y5 Y0;refine wp_region_noPanic ?_;refine wp_region_held_drew (S:=(fun W'=>W'.cell? ⟨pi,0,none⟩=some (.slice (some ⟨gi,0,none⟩) 1 1)∧W'.cell? ⟨pl,0,none⟩=some (.slice (some ⟨gl,0,none⟩) 1 1)∧W'.cell? ⟨nb,0,none⟩=some (.int .i64 0)∧W'.cell? ⟨pn,0,none⟩=some (.int .i64 1))) (by kernel_rfl) ?_ (fun hH0=>?_)
 ·(with_reducible exact s1)
 refine tk 0 12 hH0 ?_;refine tk 1 13 hH0 ?_;refine tk 2 14 hH0 ?_;refine tk 3 15 hH0 ?_;refine tk 4 16 hH0 ?_;refine tk 5 17 hH0 ?_;refine tk 6 18 hH0 ?_;refine Zk [7] ?_;refine az fun K hK=>?_;go_simp;refine hK.out _ _ ?_ (fun hH1=>?_)
 ·(with_reducible exact s2)
 clear hK K hH0
 try simp only[pu]
 refine tk 8 19 hH1 ?_;refine Zk [9] ?_;refine az fun K hK=>?_;go_simp;refine hK.out _ _ ?_ (fun hH2=>?_)
 ·(with_reducible exact s3)
 clear hK K hH1
 try simp only[pu]
 refine dn ?_ _
 all_goals(refine NoPanic.normal ?_)
 obtain⟨v1,hv⟩:∃ W,((v0.setCell ⟨gi,0,none⟩ (.int .i64 1)).setCell ⟨gl,0,none⟩ (.int .i64 1)).drew=W:=⟨_,rfl⟩;rw[hv] at Y4;clear s0 s1 s2 s3 q1 f1 q2 f2 q1d f1d q2d f2d;have hv:=hv;have y1:=(Y4.out.pk [3,0,1,2,4,5,6,7,8,9,10,11]);have n1:=y1.blk.cell 0;have m1:=y1.blk.frozen 0;have y2:=y1.set_ 0 (.int .i64 2);simp only[List.setIfInBounds_toArray,List.set_cons_zero] at y2;have t0:=(y2.pk [5]).blk.cell 0;have b0:=(y2.pk [3]).blk.cell 0;have tl:=(y2.pk [5]).blk.lt;have bl:=(y2.pk [3]).blk.lt;have y3:=y2.alloc 3 #[.int .i64 0];have hrd:=y3.blkRd;rw[show (v1.setCell ⟨pn,0,none⟩ (.int .i64 2)).heap.size=v1.heap.size by simp[World.setCell]] at hrd;have HRD:=Kd hrd;have YC:=Kd (((y3.pk [1,2,3,4,5,6,7,8,9,10,11,12])).quNil 1 3);have a1:0+1≤maxLen:=by decide
 have a2:(0+1)*8≤140737488355328:=by decide
 have HO:Hid (∀ u∈([.int .i64 0]:List Value),u.oneCell'=true):=Kd fun u hu=>by rw[List.mem_singleton.1 hu];rfl
 have HS0:=Kd hS0;clear hS0 Y4 y1 y2 y3 hrd;go_wp2_with (at_builtin;go_must (refine Jw 54 YC.out underlying54 Wg rfl HRD.out rfl (by decide) HO.out a1 a2 rfl _ _ rfl rfl rfl ?_);intro sA sC v2 h5;have tt:=(h5.pk [6]).blk.cell 0;have tf:=(h5.pk [6]).blk.frozen 0;have y4:=(h5.pk [6,0,1,2,3,4,5,7,8,9,10,11,12]).set_ 0 (.slice sA 1 sC);have x0:=(y4.pk [10]).blk.cell 0;have b3:=(y4.pk [5]).blk.cell 0);clear hv n1 m1 t0 b0 tl bl;simp only[List.setIfInBounds_toArray,List.set_cons_zero] at y4;clear x0 b3 h5 YC HRD HO a1 a2 tt tf;obtain⟨v3,hv⟩:∃ W,v2.setCell ⟨ps,0,none⟩ (.slice sA 1 sC)=W:=⟨_,rfl⟩;rw[hv] at y4 ⊢;clear hv;have ko:=of_ex sb v3;have Y4:=Kd y4;clear y4;refine ko.mono ?_;rintro e v4 ⟨p1,p2,p3,rfl,z4⟩;have Y5:=Kd (Y4.out.graft z4);clear ko z4 Y4;go_wp2_with fail;refine G7 (gf:=173) (lb:=#[.pointer (some ⟨p1,0,none⟩),.pointer (some ⟨p2,0,none⟩),.pointer (some ⟨p3,0,none⟩)]) Y5.out rfl (enters_of func173 (by kernel_rfl) rfl) (fun W hW=>?_) (fun v5 y5=>?_)
 ·have yW:=Y5.out.under hW
  exact of1_ex sb p1 p2 p3 _ W ((yW.pk [2]).blk.cell 0) ((yW.pk [1]).blk.cell 0) (HS0.out W yW.below)
 generalize v4.heap.size=D at y5 ⊢;have Y6:=Kd (y5.pk [0,6,10,4,11,12,13,9,8,7,15,5,16]);clear y5 Y5;have hS:∀ W',St lo w0 W' [Qa pi 54 #[.slice (some ⟨gi,0,none⟩) 1 1],Qa pl 54 #[.slice (some ⟨gl,0,none⟩) 1 1],Qa nb 3 #[.int .i64 0],Qh 3 1 (.slice (some ⟨gi,0,none⟩) 1 1) 1 [.int .i64 1],Qh 3 1 (.slice (some ⟨gl,0,none⟩) 1 1) 1 [.int .i64 1]]→W'.cell? ⟨pi,0,none⟩=some (.slice (some ⟨gi,0,none⟩) 1 1)∧W'.cell? ⟨pl,0,none⟩=some (.slice (some ⟨gl,0,none⟩) 1 1)∧W'.cell? ⟨nb,0,none⟩=some (.int .i64 0)∧W'.cell? ⟨gi,0,none⟩=some (.int .i64 1)∧W'.cell? ⟨gl,0,none⟩=some (.int .i64 1):=fun W' y=>⟨y.blk.cell 0,(y.pk [1]).blk.cell 0,(y.pk [2]).blk.cell 0,((y.pk [3]).cellAt (j:=0) rfl).1,((y.pk [4]).cellAt (j:=0) rfl).1⟩;have s0:=hS _ (Y6.out.pk [4,5,7,8,9]);have s1:=hS _ (Y6.out.drew.pk [4,5,7,8,9]);clear hS;go_wp2_with fail;refine wp_region_noPanic ?_;refine wp_region_held_drew (S:=(fun W'=>W'.cell? ⟨pi,0,none⟩=some (.slice (some ⟨gi,0,none⟩) 1 1)∧W'.cell? ⟨pl,0,none⟩=some (.slice (some ⟨gl,0,none⟩) 1 1)∧W'.cell? ⟨nb,0,none⟩=some (.int .i64 0)∧W'.cell? ⟨gi,0,none⟩=some (.int .i64 1)∧W'.cell? ⟨gl,0,none⟩=some (.int .i64 1))) (by kernel_rfl) ?_ (fun hH0=>?_)
 ·(with_reducible exact s1)
 refine tk 0 67 hH0 ?_;refine tk 1 68 hH0 ?_;refine tk 2 69 hH0 ?_;refine tk 3 70 hH0 ?_;refine tk 4 71 hH0 ?_;refine tk 5 72 hH0 ?_;refine tk 6 73 hH0 ?_;refine tk 7 74 hH0 ?_;refine tk 8 75 hH0 ?_;refine dn ?_ _
 all_goals(refine NoPanic.normal ?_)
 obtain⟨v6,hv⟩:∃ W,v5.drew=W:=⟨_,rfl⟩;have y7:=Y6.out.drew;rw[hv] at y7;have hv:=hv;obtain⟨qb,qo,rfl,-,-,nc⟩:=(y7.pk [11]).qu_cell (by decide);have c0:=nc 0 _ rfl;simp only[Nat.add_zero] at c0;clear nc s0 s1 Y6;have Y7:=Kd y7;clear y7;go_wp2;clear hv;refine wp_loop_once ?_;have y1:=(Y7.out.pk [3,0,1,2,4,5,6,7,8,9,10,11,12]);have t0:=y1.blk.cell 0;have tz:=y1.blk.frozen 0;have y2:=y1.set_ 0 (.slice (some ⟨qb,qo,none⟩) 0 sC);simp only[List.setIfInBounds_toArray,List.set_cons_zero] at y2;have d0:=(y2.pk [6]).blk.cell 0;have e0:=(y2.pk [3]).blk.cell 0;have y3:=(y2.pk [10,0,1,2,3,4,5,6,7,8,9,11,12]);obtain⟨g1,g2⟩:=y3.cellAt (j:=0) (u:=.int .i64 (-1)) rfl;have y4:=y3.storeO 0 (.int .i64 0);have n0:=(y4.pk [8]).blk.cell 0;have y5:=(y4.pk [4,0,1,2,3,5,6,7,8,9,10,11,12]);have e1:=y5.blk.cell 0;have ez:=y5.blk.frozen 0;have y6:=y5.set_ 0 (.int .i64 1);simp only[List.setIfInBounds_toArray,List.set_cons_zero] at y6;have Y8:=Kd (y6.pk [3,0,7,1,12]);clear y1 y2 y3 y4 y5 y6 Y7;go_wp2_with fail;exact Ct Y8.out rfl (fun W=>results_none rfl _ _ _) (fun W y=>⟨rfl,y⟩)
end Go.Proofs.YtiefajiebebgoaaGreatDoor
