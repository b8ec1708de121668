/-
  The example of the law (resolveAwake),in the program.
-/
import Derived.Test.YtiefajiebebgoaaGreatDoorQHd
import Derived.Test.YtiefajiebebgoaaGreatDoorQPm
set_option maxRecDepth 20000
set_option maxHeartbeats 32000000
open Go.Proofs.Tryz
namespace Go.Proofs.YtiefajiebebgoaaGreatDoor
set_option linter.unusedVariables false
open Go.RowKit Go.Shelf
attribute [local go_sem] Oper.semAt_some
theorem Cd {P:Program} {c:Code} {Q:Exit→Act→World→Prop} {a:Act} {w:World} {α:Type} (S:α→α→α→α→α→World→Prop) {F:α→α→α→α→α→Act}
 (h:c.wp P (fun e a' w'=>e=Exit.normal∧∃ x1 x2 x3 x4 x5,a'=F x1 x2 x3 x4 x5∧S x1 x2 x3 x4 x5 w') a w) (k:∀ x1 x2 x3 x4 x5 w',S x1 x2 x3 x4 x5 w'→Q Exit.normal (F x1 x2 x3 x4 x5) w'):c.wp P Q a w:=
 Code.wp_mono (fun e a w hr=>by obtain⟨rfl,x1,x2,x3,x4,x5,rfl,hs⟩:=hr;exact k _ _ _ _ _ _ hs) h
theorem kaw_ex (w:World) (hg:Ji w):Calls prog 4 #[] w fun e w'=>e=.returned (.bool true)∧Below w.heap.size w w':=by
 have HG:=Kd hg;clear hg;go_enter func4,ntmps4;go_wp2_with fail;refine(Kn 0 _).mono ?_;rintro e v1 ⟨rfl,z1⟩;have Y1:=Kd ((St.nil w).under z1);clear z1;go_wp2_with fail;refine(Bs Qo 1 1000 (by decide) _).mono ?_;rintro e v2 ⟨gS,rfl,z2⟩;have Y2:=Kd ((Y1.out.graft z2).alloc 43 #[.string ⟨Qo.toArray⟩,.slice (some ⟨gS,0,none⟩) 1 1]);clear z2 Y1;obtain⟨gQ,hQ⟩:∃ g,v2.heap.size=g:=⟨_,rfl⟩;rw[hQ] at Y2;go_wp2_with fail;clear hQ;refine(Kn 0 _).mono ?_;rintro e v3 ⟨rfl,z3⟩;have Y3:=Kd (Y2.out.under z3);clear z3 Y2;go_wp2_with fail;refine(Kn 1 _).mono ?_;rintro e v4 ⟨rfl,z4⟩;have Y4:=Kd (Y3.out.under z4);clear z4 Y3;go_wp2_with fail;refine(Kn 2 _).mono ?_;rintro e v5 ⟨rfl,z5⟩;have Y5:=Kd (Y4.out.under z5);clear z5 Y4;have y6:=(Y5.out.alloc 46 #[.string ⟨#[97,47,118,49]⟩,.int .i64 1,.int .i64 0,.int .i64 0,.slice (some ⟨gQ,0,none⟩) 1 1,.string ⟨#[]⟩,.string ⟨#[]⟩,.string ⟨#[]⟩,.bool false,.string ⟨#[98,47,118,49]⟩,.int .i64 1,.int .i64 0,.int .i64 0,.slice none 0 0,.string ⟨#[]⟩,.string ⟨#[]⟩,.string ⟨#[]⟩,.bool false,.string ⟨#[98,47,118,49]⟩,.int .i64 1,.int .i64 1,.int .i64 0,.slice none 0 0,.string ⟨#[]⟩,.string ⟨#[]⟩,.string ⟨#[]⟩,.bool false,.string ⟨#[98,47,118,49]⟩,.int .i64 1,.int .i64 2,.int .i64 0,.slice none 0 0,.string ⟨#[]⟩,.string ⟨#[]⟩,.string ⟨#[]⟩,.bool false]).alloc 25 #[.slice (some ⟨v5.heap.size,0,none⟩) 4 4,.slice none 0 0];simp only[World.size_alloc] at y6;have Y6:=Kd y6;clear y6 Y5;go_wp2_with fail;obtain⟨v6,hv⟩:∃ W,(v5.alloc (.cells #[.string ⟨#[97,47,118,49]⟩,.int .i64 1,.int .i64 0,.int .i64 0,.slice (some ⟨gQ,0,none⟩) 1 1,.string ⟨#[]⟩,.string ⟨#[]⟩,.string ⟨#[]⟩,.bool false,.string ⟨#[98,47,118,49]⟩,.int .i64 1,.int .i64 0,.int .i64 0,.slice none 0 0,.string ⟨#[]⟩,.string ⟨#[]⟩,.string ⟨#[]⟩,.bool false,.string ⟨#[98,47,118,49]⟩,.int .i64 1,.int .i64 1,.int .i64 0,.slice none 0 0,.string ⟨#[]⟩,.string ⟨#[]⟩,.string ⟨#[]⟩,.bool false,.string ⟨#[98,47,118,49]⟩,.int .i64 1,.int .i64 2,.int .i64 0,.slice none 0 0,.string ⟨#[]⟩,.string ⟨#[]⟩,.string ⟨#[]⟩,.bool false] 46)).alloc (.cells #[.slice (some ⟨v5.heap.size,0,none⟩) 4 4,.slice none 0 0] 25)=W:=⟨_,rfl⟩;rw[hv] at Y6 ⊢;clear hv;generalize v5.heap.size+1=pI at Y6 ⊢;generalize v5.heap.size=gR at Y6 ⊢;refine(Bs Qq 0 0 (by decide) _).mono ?_;rintro e v7 ⟨gU,rfl,z7⟩;have y7:=(Y6.out.graft z7).alloc 43 #[.string ⟨Qq.toArray⟩,.slice (some ⟨gU,0,none⟩) 1 1];have Y7:=Kd y7;clear z7 Y6;have x0:=(y7.pk [2]).blk.cell 0;have x1:=(y7.pk [2]).blk.cell 1;clear y7;go_wp2_with fail;clear x0 x1;obtain⟨v8,hv⟩:∃ W,v7.alloc (.cells #[.string ⟨Qq.toArray⟩,.slice (some ⟨gU,0,none⟩) 1 1] 43)=W:=⟨_,rfl⟩;rw[hv] at Y7 ⊢;clear hv;generalize v7.heap.size=gP at Y7 ⊢;have hX:Qx v8 (fun k=>w.heap.size≤k) (.slice (some ⟨gR,0,none⟩) 4 4) (Jl (.slice (some ⟨gQ,0,none⟩) 1 1)):=(Y7.out.pk [3,4,5]).relsEx;have hR:Qt v8 (fun k=>w.heap.size≤k) (.slice (some ⟨gP,0,none⟩) 1 1) Bk:=Y7.out.reqsOne;refine(select_ex _ _ _ _ _ _ _ _ v8 hX hR (HG.out.below Y7.out.below)).mono ?_;rintro e v9 ⟨sA,sC,rfl,hb,⟨A',c',e',hc1,hc2,hsel⟩⟩;obtain⟨rfl,-,rfl⟩:=Value.slice.inj e';have HSC:=Kd2 hc1 hc2;clear hc1 hc2;have y9:=Y7.out.newRo hb hsel;have hX9:=hX.below hb;have hR9:=hR.below hb;have HX:=Kd2 hX9 hR9;have x0:=(y9.pk [3]).blk.cell 0;have x1:=(y9.pk [3]).blk.cell 1;have Y9:=Kd y9;clear e' hsel hb hX hR hX9 hR9 y9 Y7;go_wp2_with fail;clear x0 x1;refine(make_ex _ _ _ _ _ _ _ v9 HX.out.1 HX.out.2 (HG.out.below Y9.out.below)).mono ?_;rintro e v10 ⟨tA,eA,jA,kA,tC,eC,jC,kC,rfl,z⟩;have HX10:=Kd2 (HX.out.1.below z.below) (HX.out.2.below z.below);have Y10:=Kd ((Y9.out.graft z).alloc 51 #[.slice tA 1 tC,.slice eA 2 eC,.slice jA 1 jC,.slice kA 0 kC]);clear z Y9 HX;go_wp2_with fail;obtain⟨v11,hv⟩:∃ W,v10.alloc (.cells #[.slice tA 1 tC,.slice eA 2 eC,.slice jA 1 jC,.slice kA 0 kC] 51)=W:=⟨_,rfl⟩;have HX11:Hid (Qx v11 (fun k=>w.heap.size≤k) (.slice (some ⟨gR,0,none⟩) 4 4) (Jl (.slice (some ⟨gQ,0,none⟩) 1 1))∧Qt v11 (fun k=>w.heap.size≤k) (.slice (some ⟨gP,0,none⟩) 1 1) Bk):=Kd (by rw[←hv];exact⟨HX10.out.1.below ((Below.refl _ v10).alloc (Nat.le_refl _) _),HX10.out.2.below ((Below.refl _ v10).alloc (Nat.le_refl _) _)⟩);rw[hv] at Y10 ⊢;clear hv HX10;generalize v10.heap.size=pL at Y10 ⊢;have y11:St w.heap.size w v11 [Qa pI 25 #[.slice (some ⟨gR,0,none⟩) 4 4,.slice none 0 0],Qa gR 46 #[.string ⟨#[97,47,118,49]⟩,.int .i64 1,.int .i64 0,.int .i64 0,.slice (some ⟨gQ,0,none⟩) 1 1,.string ⟨#[]⟩,.string ⟨#[]⟩,.string ⟨#[]⟩,.bool false,.string ⟨#[98,47,118,49]⟩,.int .i64 1,.int .i64 0,.int .i64 0,.slice none 0 0,.string ⟨#[]⟩,.string ⟨#[]⟩,.string ⟨#[]⟩,.bool false,.string ⟨#[98,47,118,49]⟩,.int .i64 1,.int .i64 1,.int .i64 0,.slice none 0 0,.string ⟨#[]⟩,.string ⟨#[]⟩,.string ⟨#[]⟩,.bool false,.string ⟨#[98,47,118,49]⟩,.int .i64 1,.int .i64 2,.int .i64 0,.slice none 0 0,.string ⟨#[]⟩,.string ⟨#[]⟩,.string ⟨#[]⟩,.bool false],Qa gQ 43 #[.string ⟨Qo.toArray⟩,.slice (some ⟨gS,0,none⟩) 1 1],Qa gS 79 #[.int .i64 1000,.int .i64 1000000],Qa pL 51 #[.slice tA 1 tC,.slice eA 2 eC,.slice jA 1 jC,.slice kA 0 kC],rqR (.slice tA 1 tC) Bk,Xl eA (exL.flatMap enC),Xl jA (exI.flatMap Xj),Xl sA ((Ke 1).flatMap Wm)]:=(Y10.out.pk [7,8,9,10,0,1,2,3,4]);clear Y10 HX11;apply Cd (fun (gV gW gZ gK kc:Nat) w'=>St w.heap.size w w' [Qa gV 79 #[.int .i64 0,.int .i64 1000000],Qa gW 79 #[.int .i64 3000,.int .i64 1000000],Qa gZ 43 #[.string ⟨Qq.toArray⟩,.slice (some ⟨gV,0,none⟩) 1 1,.string ⟨Qo.toArray⟩,.slice (some ⟨gW,0,none⟩) 1 1],Qh 3 1 (.slice (some ⟨gK,0,none⟩) 1 kc) 1 [.int .i64 1],Qa pI 25 #[.slice (some ⟨gR,0,none⟩) 4 4,.slice none 0 0],Qa gR 46 #[.string ⟨#[97,47,118,49]⟩,.int .i64 1,.int .i64 0,.int .i64 0,.slice (some ⟨gQ,0,none⟩) 1 1,.string ⟨#[]⟩,.string ⟨#[]⟩,.string ⟨#[]⟩,.bool false,.string ⟨#[98,47,118,49]⟩,.int .i64 1,.int .i64 0,.int .i64 0,.slice none 0 0,.string ⟨#[]⟩,.string ⟨#[]⟩,.string ⟨#[]⟩,.bool false,.string ⟨#[98,47,118,49]⟩,.int .i64 1,.int .i64 1,.int .i64 0,.slice none 0 0,.string ⟨#[]⟩,.string ⟨#[]⟩,.string ⟨#[]⟩,.bool false,.string ⟨#[98,47,118,49]⟩,.int .i64 1,.int .i64 2,.int .i64 0,.slice none 0 0,.string ⟨#[]⟩,.string ⟨#[]⟩,.string ⟨#[]⟩,.bool false],Qa gQ 43 #[.string ⟨Qo.toArray⟩,.slice (some ⟨gS,0,none⟩) 1 1],Qa gS 79 #[.int .i64 1000,.int .i64 1000000],Qa pL 51 #[.slice tA 1 tC,.slice eA 2 eC,.slice jA 1 jC,.slice kA 0 kC],rqR (.slice tA 1 tC) Bk,Xl eA (exL.flatMap enC),Xl jA (exI.flatMap Xj),Xl sA ((Ke 1).flatMap Wm)])
 case h=>
  obtain⟨AA,hAA⟩:∃ AA:(Nat→Bool)→Nat→Nat→Nat→Nat→Nat→Act,Hid (∀ L gV gW gZ gK kc,AA L gV gW gZ gK kc={ tmps:=List.toArray ((.bool false)::(.func (.func 11) #[] #[])::(.pointer (some ⟨pI,0,none⟩))::(.slice (some ⟨gP,0,none⟩) 1 1)::(.slice sA 2 sC)::(.int .i64 0)::(.pointer (some ⟨pL,0,none⟩))::(.int .i64 0)::(sl (L 8) (.slice (some ⟨gK,0,none⟩) 1 kc))::(sl (L 9) (.int .i64 0))::(undef)::(undef)::(.func (.func 11) #[] #[])::(.agg #[.int .i64 1,.int .i64 0,.int .i64 0])::(.agg #[.string ⟨Qo.toArray⟩,.slice (some ⟨gS,0,none⟩) 1 1])::(.slice (some ⟨gQ,0,none⟩) 1 1)::(.agg #[.string ⟨#[97,47,118,49]⟩,.int .i64 1,.int .i64 0,.int .i64 0,.slice (some ⟨gQ,0,none⟩) 1 1,.string ⟨#[]⟩,.string ⟨#[]⟩,.string ⟨#[]⟩,.bool false])::(.func (.func 11) #[] #[])::(.agg #[.int .i64 1,.int .i64 0,.int .i64 0])::(.agg #[.string ⟨#[98,47,118,49]⟩,.int .i64 1,.int .i64 0,.int .i64 0,.slice none 0 0,.string ⟨#[]⟩,.string ⟨#[]⟩,.string ⟨#[]⟩,.bool false])::(.func (.func 11) #[] #[])::(.agg #[.int .i64 1,.int .i64 1,.int .i64 0])::(.agg #[.string ⟨#[98,47,118,49]⟩,.int .i64 1,.int .i64 1,.int .i64 0,.slice none 0 0,.string ⟨#[]⟩,.string ⟨#[]⟩,.string ⟨#[]⟩,.bool false])::(.func (.func 11) #[] #[])::(.agg #[.int .i64 1,.int .i64 2,.int .i64 0])::(.agg #[.string ⟨#[98,47,118,49]⟩,.int .i64 1,.int .i64 2,.int .i64 0,.slice none 0 0,.string ⟨#[]⟩,.string ⟨#[]⟩,.string ⟨#[]⟩,.bool false])::(.slice (some ⟨gR,0,none⟩) 4 4)::(.agg #[.slice (some ⟨gR,0,none⟩) 4 4,.slice none 0 0])::(.agg #[.string ⟨Qq.toArray⟩,.slice (some ⟨gU,0,none⟩) 1 1])::(.slice (some ⟨gP,0,none⟩) 1 1)::(.tuple #[.slice sA 2 sC,.int .i64 0])::(.agg #[.slice (some ⟨gR,0,none⟩) 4 4,.slice none 0 0])::(.slice (some ⟨gP,0,none⟩) 1 1)::(.tuple #[.slice sA 2 sC,.int .i64 0])::(.slice sA 2 sC)::(.int .i64 0)::(.tuple #[.agg #[.slice tA 1 tC,.slice eA 2 eC,.slice jA 1 jC,.slice kA 0 kC],.int .i64 0])::(.agg #[.slice (some ⟨gR,0,none⟩) 4 4,.slice none 0 0])::(.slice (some ⟨gP,0,none⟩) 1 1)::(.tuple #[.agg #[.slice tA 1 tC,.slice eA 2 eC,.slice jA 1 jC,.slice kA 0 kC],.int .i64 0])::(.agg #[.slice tA 1 tC,.slice eA 2 eC,.slice jA 1 jC,.slice kA 0 kC])::(.int .i64 0)::(sl (L 5) (.tuple #[.slice (some ⟨gK,0,none⟩) 1 kc,.int .i64 0]))::(sl (L 0) (.agg #[.slice (some ⟨gR,0,none⟩) 4 4,.slice none 0 0]))::(sl (L 1) (.agg #[.string ⟨Qq.toArray⟩,.slice (some ⟨gV,0,none⟩) 1 1]))::(sl (L 2) (.agg #[.string ⟨Qo.toArray⟩,.slice (some ⟨gW,0,none⟩) 1 1]))::(sl (L 3) (.slice (some ⟨gZ,0,none⟩) 2 2))::(sl (L 4) (.tuple #[.slice (some ⟨gK,0,none⟩) 1 kc,.int .i64 0]))::(sl (L 6) (.slice (some ⟨gK,0,none⟩) 1 kc))::(sl (L 7) (.int .i64 0))::(undef)::(undef)::(undef)::(undef)::(undef)::(undef)::(undef)::(undef)::(undef)::(undef)::(undef)::(undef)::(undef)::(undef)::(undef)::(undef)::(undef)::(undef)::(undef)::(undef)::(undef)::(undef)::(undef)::(undef)::(undef)::(undef)::(undef)::(undef)::(undef)::(undef)::(undef)::(undef)::(undef)::(undef)::(undef)::(undef)::(undef)::(undef)::(undef)::(undef)::(undef)::(undef)::(undef)::(undef)::(undef)::(undef)::(undef)::(undef)::(undef)::(undef)::(undef)::(undef)::(undef)::(undef)::(undef)::(undef)::(undef)::(undef)::(undef)::(undef)::(undef)::(undef)::(undef)::[]),defers:=[] }):=⟨_,Kd fun _ _ _ _ _ _=>rfl⟩;obtain⟨SS,hSS⟩:∃ SS:(Nat→Bool)→Nat→Nat→Nat→Nat→Nat→World→Prop,Hid (∀ L gV gW gZ gK kc w',SS L gV gW gZ gK kc w'=(St w.heap.size w w' [Qj (L 1) (Qa gV 79 #[.int .i64 0,.int .i64 1000000]),Qj (L 2) (Qa gW 79 #[.int .i64 3000,.int .i64 1000000]),Qj (L 3) (Qa gZ 43 #[.string ⟨Qq.toArray⟩,.slice (some ⟨gV,0,none⟩) 1 1,.string ⟨Qo.toArray⟩,.slice (some ⟨gW,0,none⟩) 1 1]),Qj (L 4) (Qh 3 1 (.slice (some ⟨gK,0,none⟩) 1 kc) 1 [.int .i64 1]),Qa pI 25 #[.slice (some ⟨gR,0,none⟩) 4 4,.slice none 0 0],Qa gR 46 #[.string ⟨#[97,47,118,49]⟩,.int .i64 1,.int .i64 0,.int .i64 0,.slice (some ⟨gQ,0,none⟩) 1 1,.string ⟨#[]⟩,.string ⟨#[]⟩,.string ⟨#[]⟩,.bool false,.string ⟨#[98,47,118,49]⟩,.int .i64 1,.int .i64 0,.int .i64 0,.slice none 0 0,.string ⟨#[]⟩,.string ⟨#[]⟩,.string ⟨#[]⟩,.bool false,.string ⟨#[98,47,118,49]⟩,.int .i64 1,.int .i64 1,.int .i64 0,.slice none 0 0,.string ⟨#[]⟩,.string ⟨#[]⟩,.string ⟨#[]⟩,.bool false,.string ⟨#[98,47,118,49]⟩,.int .i64 1,.int .i64 2,.int .i64 0,.slice none 0 0,.string ⟨#[]⟩,.string ⟨#[]⟩,.string ⟨#[]⟩,.bool false],Qa gQ 43 #[.string ⟨Qo.toArray⟩,.slice (some ⟨gS,0,none⟩) 1 1],Qa gS 79 #[.int .i64 1000,.int .i64 1000000],Qa pL 51 #[.slice tA 1 tC,.slice eA 2 eC,.slice jA 1 jC,.slice kA 0 kC],rqR (.slice tA 1 tC) Bk,Xl eA (exL.flatMap enC),Xl jA (exI.flatMap Xj),Xl sA ((Ke 1).flatMap Wm)])):=⟨_,Kd fun _ _ _ _ _ _ _=>rfl⟩;refine Vt (by kernel_rfl) [(0,1009,1),(0,1022,2),(2,1020,6),(6,1016,14),(15,1008,31),(31,992,63),(63,832,127),(63,640,191),(127,768,383),(511,512,1023)] 1023 (fun L a w'=>∃(gV:Nat) (gW:Nat) (gZ:Nat) (gK:Nat) (kc:Nat),a=AA L gV gW gZ gK kc∧SS L gV gW gZ gK kc w') (by kernel_rfl) (by kernel_rfl) (by kernel_rfl) ?_ ⟨?_,?_,?_,?_,?_,?_,?_,?_,?_,?_,trivial⟩ ?_
  ·simp only[hAA.out,hSS.out]
   exact⟨0,0,0,0,0,rfl,y11.drew.unit.unit.unit.unit⟩
  ·rintro L w' K HK a ⟨gV,gW,gZ,gK,kc,rfl,hst⟩
   rw[hSS.out] at hst;rw[hAA.out];simp (decide:=true) only[og,oo,Qe,Qj] at hst ⊢;have bk0:=(hst.pk [4]).blk.cell 0;have bk1:=(hst.pk [4]).blk.cell 1;rw[if_pos (by rfl)];go_simp;refine HK.out _ _ ⟨gV,gW,gZ,gK,kc,?_,?_⟩
   ·rw[hAA.out]
    kernel_rfl
   ·rw[hSS.out]
    simp (decide:=true) only[og,oo,Qj];exact hst
  ·rintro L w' K HK a ⟨gV,gW,gZ,gK,kc,rfl,hst⟩
   rw[hSS.out] at hst;rw[hAA.out];simp (decide:=true) only[og,oo,Qe,Qj] at hst ⊢;rw[if_pos (by rfl)];go_simp;refine(Bs Qq 0 0 (by decide) _).mono ?_;rintro e w2 ⟨g,rfl,z⟩;refine HK.out _ _ ⟨g,gW,gZ,gK,kc,?_,?_⟩
   ·rw[hAA.out]
    kernel_rfl
   ·rw[hSS.out]
    simp (decide:=true) only[ot,og,Qj];exact((hst.graft z).pk [0,2,3,4,5,6,7,8,9,10,11,12,13])
  ·rintro L w' K HK a ⟨gV,gW,gZ,gK,kc,rfl,hst⟩
   rw[hSS.out] at hst;rw[hAA.out];simp (decide:=true) only[ot,og,oo,Qg,Qe,Qj] at hst ⊢;rw[if_pos (by rfl)];go_simp;refine(Bs Qo 3 3000 (by decide) _).mono ?_;rintro e w2 ⟨g,rfl,z⟩;refine HK.out _ _ ⟨gV,g,gZ,gK,kc,?_,?_⟩
   ·rw[hAA.out]
    kernel_rfl
   ·rw[hSS.out]
    simp (decide:=true) only[ot,og,Qj];exact((hst.graft z).pk [1,0,3,4,5,6,7,8,9,10,11,12,13])
  ·rintro L w' K HK a ⟨gV,gW,gZ,gK,kc,rfl,hst⟩
   rw[hSS.out] at hst;rw[hAA.out];simp (decide:=true) only[ot,og,oo,Qg,Qe,Qj] at hst ⊢;rw[if_pos (by rfl)];go_simp;refine HK.out _ _ ⟨gV,gW,w'.heap.size,gK,kc,?_,?_⟩
   ·rw[hAA.out]
    kernel_rfl
   ·rw[hSS.out]
    simp (decide:=true) only[ot,og,Qj];exact((hst.alloc 43 #[.string ⟨Qq.toArray⟩,.slice (some ⟨gV,0,none⟩) 1 1,.string ⟨Qo.toArray⟩,.slice (some ⟨gW,0,none⟩) 1 1]).pk [1,2,0,4,5,6,7,8,9,10,11,12,13])
  ·rintro L w' K HK a ⟨gV,gW,gZ,gK,kc,rfl,hst⟩
   rw[hSS.out] at hst;rw[hAA.out];simp (decide:=true) only[ot,og,Qg,Qe,Qj] at hst ⊢;have hX:Qx w' (fun k=>w.heap.size≤k) (.slice (some ⟨gR,0,none⟩) 4 4) (Jl (.slice (some ⟨gQ,0,none⟩) 1 1)):=(hst.pk [5,6,7]).relsEx;have hR2:Qt w' (fun k=>w.heap.size≤k) (.slice (some ⟨gZ,0,none⟩) 2 2) Hx:=(hst.pk [2,0,1]).reqsTwo;have HH:=Kd2 hX hR2;clear hX hR2;rw[if_pos (by rfl)];go_simp;refine(core_ex _ _ _ _ _ _ _ w' HH.out.1 HH.out.2 (HG.out.below hst.below)).mono ?_;rintro e w2 ⟨g,kc',rfl,z⟩;refine HK.out _ _ ⟨gV,gW,gZ,g,kc',?_,?_⟩
   ·rw[hAA.out]
    kernel_rfl
   ·rw[hSS.out]
    simp (decide:=true) only[ot,Qj];exact((hst.graft z).pk [1,2,3,0,5,6,7,8,9,10,11,12,13])
  iterate 5
   ·rintro L w' K HK a ⟨gV,gW,gZ,gK,kc,rfl,hst⟩
    rw[hSS.out] at hst;rw[hAA.out];simp (decide:=true) only[ot,og,oo,Qg,Qe,Qj] at hst ⊢;rw[if_pos (by rfl)];go_simp;refine HK.out _ _ ⟨gV,gW,gZ,gK,kc,?_,?_⟩
    ·rw[hAA.out]
     kernel_rfl
    ·rw[hSS.out]
     simp (decide:=true) only[ot,Qj];exact hst
  ·rintro L a w' ⟨gV,gW,gZ,gK,kc,ha,hst⟩
   rw[hSS.out] at hst;rw[hAA.out] at ha;simp (decide:=true) only[ot] at hst ha;subst ha;clear hAA hSS AA SS;simp only[Qj] at hst;exact⟨rfl,gV,gW,gZ,gK,kc,rfl,hst⟩
 case k=>
  rintro gV gW gZ gK kc v12 y12;simp only[Qg];have Y12:=Kd y12;clear y12 y11;go_wp2_with fail;have y12:=Y12.out;apply Ko (fun (gT:Nat) (wA:Option Addr) (wC:Nat) w'=>St w.heap.size w w' [Qa gT 38 #[.string ⟨#[97,47,118,49]⟩,.int .i64 1,.int .i64 0,.int .i64 0,.string ⟨#[98,47,118,49]⟩,.int .i64 1,.int .i64 2,.int .i64 0],Qa gV 79 #[.int .i64 0,.int .i64 1000000],Qa gW 79 #[.int .i64 3000,.int .i64 1000000],Qa gZ 43 #[.string ⟨Qq.toArray⟩,.slice (some ⟨gV,0,none⟩) 1 1,.string ⟨Qo.toArray⟩,.slice (some ⟨gW,0,none⟩) 1 1],Qh 3 1 (.slice (some ⟨gK,0,none⟩) 1 kc) 1 [.int .i64 1],Qa pI 25 #[.slice (some ⟨gR,0,none⟩) 4 4,.slice none 0 0],Qa gR 46 #[.string ⟨#[97,47,118,49]⟩,.int .i64 1,.int .i64 0,.int .i64 0,.slice (some ⟨gQ,0,none⟩) 1 1,.string ⟨#[]⟩,.string ⟨#[]⟩,.string ⟨#[]⟩,.bool false,.string ⟨#[98,47,118,49]⟩,.int .i64 1,.int .i64 0,.int .i64 0,.slice none 0 0,.string ⟨#[]⟩,.string ⟨#[]⟩,.string ⟨#[]⟩,.bool false,.string ⟨#[98,47,118,49]⟩,.int .i64 1,.int .i64 1,.int .i64 0,.slice none 0 0,.string ⟨#[]⟩,.string ⟨#[]⟩,.string ⟨#[]⟩,.bool false,.string ⟨#[98,47,118,49]⟩,.int .i64 1,.int .i64 2,.int .i64 0,.slice none 0 0,.string ⟨#[]⟩,.string ⟨#[]⟩,.string ⟨#[]⟩,.bool false],Qa gQ 43 #[.string ⟨Qo.toArray⟩,.slice (some ⟨gS,0,none⟩) 1 1],Qa gS 79 #[.int .i64 1000,.int .i64 1000000],Qa pL 51 #[.slice tA 1 tC,.slice eA 2 eC,.slice jA 1 jC,.slice kA 0 kC],rqR (.slice tA 1 tC) Bk,Xl eA (exL.flatMap enC),Xl jA (exI.flatMap Xj),Xl sA ((Ke 1).flatMap Wm)])
  case h=>
   obtain⟨AA,hAA⟩:∃ AA:(Nat→Bool)→Nat→Option Addr→Nat→Act,Hid (∀ L gT wA wC,AA L gT wA wC={ tmps:=List.toArray ((.bool false)::(.func (.func 11) #[] #[])::(.pointer (some ⟨pI,0,none⟩))::(.slice (some ⟨gP,0,none⟩) 1 1)::(.slice sA 2 sC)::(.int .i64 0)::(.pointer (some ⟨pL,0,none⟩))::(.int .i64 0)::(.slice (some ⟨gK,0,none⟩) 1 kc)::(.int .i64 0)::(sl (L 13) (.slice wA 1 wC))::(sl (L 14) (.int .i64 0))::(.func (.func 11) #[] #[])::(.agg #[.int .i64 1,.int .i64 0,.int .i64 0])::(.agg #[.string ⟨Qo.toArray⟩,.slice (some ⟨gS,0,none⟩) 1 1])::(.slice (some ⟨gQ,0,none⟩) 1 1)::(.agg #[.string ⟨#[97,47,118,49]⟩,.int .i64 1,.int .i64 0,.int .i64 0,.slice (some ⟨gQ,0,none⟩) 1 1,.string ⟨#[]⟩,.string ⟨#[]⟩,.string ⟨#[]⟩,.bool false])::(.func (.func 11) #[] #[])::(.agg #[.int .i64 1,.int .i64 0,.int .i64 0])::(.agg #[.string ⟨#[98,47,118,49]⟩,.int .i64 1,.int .i64 0,.int .i64 0,.slice none 0 0,.string ⟨#[]⟩,.string ⟨#[]⟩,.string ⟨#[]⟩,.bool false])::(.func (.func 11) #[] #[])::(.agg #[.int .i64 1,.int .i64 1,.int .i64 0])::(.agg #[.string ⟨#[98,47,118,49]⟩,.int .i64 1,.int .i64 1,.int .i64 0,.slice none 0 0,.string ⟨#[]⟩,.string ⟨#[]⟩,.string ⟨#[]⟩,.bool false])::(.func (.func 11) #[] #[])::(.agg #[.int .i64 1,.int .i64 2,.int .i64 0])::(.agg #[.string ⟨#[98,47,118,49]⟩,.int .i64 1,.int .i64 2,.int .i64 0,.slice none 0 0,.string ⟨#[]⟩,.string ⟨#[]⟩,.string ⟨#[]⟩,.bool false])::(.slice (some ⟨gR,0,none⟩) 4 4)::(.agg #[.slice (some ⟨gR,0,none⟩) 4 4,.slice none 0 0])::(.agg #[.string ⟨Qq.toArray⟩,.slice (some ⟨gU,0,none⟩) 1 1])::(.slice (some ⟨gP,0,none⟩) 1 1)::(.tuple #[.slice sA 2 sC,.int .i64 0])::(.agg #[.slice (some ⟨gR,0,none⟩) 4 4,.slice none 0 0])::(.slice (some ⟨gP,0,none⟩) 1 1)::(.tuple #[.slice sA 2 sC,.int .i64 0])::(.slice sA 2 sC)::(.int .i64 0)::(.tuple #[.agg #[.slice tA 1 tC,.slice eA 2 eC,.slice jA 1 jC,.slice kA 0 kC],.int .i64 0])::(.agg #[.slice (some ⟨gR,0,none⟩) 4 4,.slice none 0 0])::(.slice (some ⟨gP,0,none⟩) 1 1)::(.tuple #[.agg #[.slice tA 1 tC,.slice eA 2 eC,.slice jA 1 jC,.slice kA 0 kC],.int .i64 0])::(.agg #[.slice tA 1 tC,.slice eA 2 eC,.slice jA 1 jC,.slice kA 0 kC])::(.int .i64 0)::(.tuple #[.slice (some ⟨gK,0,none⟩) 1 kc,.int .i64 0])::(.agg #[.slice (some ⟨gR,0,none⟩) 4 4,.slice none 0 0])::(.agg #[.string ⟨Qq.toArray⟩,.slice (some ⟨gV,0,none⟩) 1 1])::(.agg #[.string ⟨Qo.toArray⟩,.slice (some ⟨gW,0,none⟩) 1 1])::(.slice (some ⟨gZ,0,none⟩) 2 2)::(.tuple #[.slice (some ⟨gK,0,none⟩) 1 kc,.int .i64 0])::(.slice (some ⟨gK,0,none⟩) 1 kc)::(.int .i64 0)::(sl (L 10) (.tuple #[.slice wA 1 wC,.int .i64 0]))::(sl (L 0) (.agg #[.slice (some ⟨gR,0,none⟩) 4 4,.slice none 0 0]))::(sl (L 1) (.slice sA 2 sC))::(sl (L 2) (.func (.func 11) #[] #[]))::(sl (L 3) (.agg #[.int .i64 1,.int .i64 0,.int .i64 0]))::(sl (L 4) (.agg #[.string ⟨#[97,47,118,49]⟩,.int .i64 1,.int .i64 0,.int .i64 0]))::(sl (L 5) (.func (.func 11) #[] #[]))::(sl (L 6) (.agg #[.int .i64 1,.int .i64 2,.int .i64 0]))::(sl (L 7) (.agg #[.string ⟨#[98,47,118,49]⟩,.int .i64 1,.int .i64 2,.int .i64 0]))::(sl (L 8) (.slice (some ⟨gT,0,none⟩) 2 2))::(sl (L 9) (.tuple #[.slice wA 1 wC,.int .i64 0]))::(sl (L 11) (.slice wA 1 wC))::(sl (L 12) (.int .i64 0))::(undef)::(undef)::(undef)::(undef)::(undef)::(undef)::(undef)::(undef)::(undef)::(undef)::(undef)::(undef)::(undef)::(undef)::(undef)::(undef)::(undef)::(undef)::(undef)::(undef)::(undef)::(undef)::(undef)::(undef)::(undef)::(undef)::(undef)::(undef)::(undef)::(undef)::(undef)::(undef)::(undef)::(undef)::(undef)::(undef)::(undef)::(undef)::(undef)::(undef)::(undef)::(undef)::(undef)::(undef)::(undef)::(undef)::(undef)::(undef)::(undef)::(undef)::[]),defers:=[] }):=⟨_,Kd fun _ _ _ _=>rfl⟩;obtain⟨SS,hSS⟩:∃ SS:(Nat→Bool)→Nat→Option Addr→Nat→World→Prop,Hid (∀ L gT wA wC w',SS L gT wA wC w'=(St w.heap.size w w' [Qj (L 8) (Qa gT 38 #[.string ⟨#[97,47,118,49]⟩,.int .i64 1,.int .i64 0,.int .i64 0,.string ⟨#[98,47,118,49]⟩,.int .i64 1,.int .i64 2,.int .i64 0]),Qa gV 79 #[.int .i64 0,.int .i64 1000000],Qa gW 79 #[.int .i64 3000,.int .i64 1000000],Qa gZ 43 #[.string ⟨Qq.toArray⟩,.slice (some ⟨gV,0,none⟩) 1 1,.string ⟨Qo.toArray⟩,.slice (some ⟨gW,0,none⟩) 1 1],Qh 3 1 (.slice (some ⟨gK,0,none⟩) 1 kc) 1 [.int .i64 1],Qa pI 25 #[.slice (some ⟨gR,0,none⟩) 4 4,.slice none 0 0],Qa gR 46 #[.string ⟨#[97,47,118,49]⟩,.int .i64 1,.int .i64 0,.int .i64 0,.slice (some ⟨gQ,0,none⟩) 1 1,.string ⟨#[]⟩,.string ⟨#[]⟩,.string ⟨#[]⟩,.bool false,.string ⟨#[98,47,118,49]⟩,.int .i64 1,.int .i64 0,.int .i64 0,.slice none 0 0,.string ⟨#[]⟩,.string ⟨#[]⟩,.string ⟨#[]⟩,.bool false,.string ⟨#[98,47,118,49]⟩,.int .i64 1,.int .i64 1,.int .i64 0,.slice none 0 0,.string ⟨#[]⟩,.string ⟨#[]⟩,.string ⟨#[]⟩,.bool false,.string ⟨#[98,47,118,49]⟩,.int .i64 1,.int .i64 2,.int .i64 0,.slice none 0 0,.string ⟨#[]⟩,.string ⟨#[]⟩,.string ⟨#[]⟩,.bool false],Qa gQ 43 #[.string ⟨Qo.toArray⟩,.slice (some ⟨gS,0,none⟩) 1 1],Qa gS 79 #[.int .i64 1000,.int .i64 1000000],Qa pL 51 #[.slice tA 1 tC,.slice eA 2 eC,.slice jA 1 jC,.slice kA 0 kC],rqR (.slice tA 1 tC) Bk,Xl eA (exL.flatMap enC),Xl jA (exI.flatMap Xj),Xl sA ((Ke 1).flatMap Wm)])):=⟨_,Kd fun _ _ _ _ _=>rfl⟩;refine Vt (by kernel_rfl) [(0,32257,1),(0,32258,2),(0,32732,4),(4,32728,12),(12,32528,28),(0,32736,32),(44,32704,108),(108,32640,236),(252,32512,508),(511,32256,1023),(1023,31744,2047),(2047,26624,4095),(2047,20480,6143),(4095,24576,12287),(16383,16384,32767)] 32767 (fun L a w'=>∃(gT:Nat) (wA:Option Addr) (wC:Nat),a=AA L gT wA wC∧SS L gT wA wC w') (by kernel_rfl) (by kernel_rfl) (by kernel_rfl) ?_ ⟨?_,?_,?_,?_,?_,?_,?_,?_,?_,?_,?_,?_,?_,?_,?_,trivial⟩ ?_
   ·simp only[hAA.out,hSS.out]
    exact⟨0,none,0,rfl,y12.drew.unit⟩
   ·rintro L w' K HK a ⟨gT,wA,wC,rfl,hst⟩
    rw[hSS.out] at hst;rw[hAA.out];simp (decide:=true) only[og,oo,Qe,Qj] at hst ⊢;have bk0:=(hst.pk [5]).blk.cell 0;have bk1:=(hst.pk [5]).blk.cell 1;rw[if_pos (by rfl)];go_simp;refine HK.out _ _ ⟨gT,wA,wC,?_,?_⟩
    ·rw[hAA.out]
     kernel_rfl
    ·rw[hSS.out]
     simp (decide:=true) only[oo,Qj];exact hst
   iterate 2
    ·rintro L w' K HK a ⟨gT,wA,wC,rfl,hst⟩
     rw[hSS.out] at hst;rw[hAA.out];simp (decide:=true) only[og,oo,Qe,Qj] at hst ⊢;rw[if_pos (by rfl)];go_simp;refine HK.out _ _ ⟨gT,wA,wC,?_,?_⟩
     ·rw[hAA.out]
      kernel_rfl
     ·rw[hSS.out]
      simp (decide:=true) only[og,oo,Qj];exact hst
   ·rintro L w' K HK a ⟨gT,wA,wC,rfl,hst⟩
    rw[hSS.out] at hst;rw[hAA.out];simp (decide:=true) only[ot,og,oo,Qg,Qe,Qj] at hst ⊢;rw[if_pos (by rfl)];go_simp;refine(Kn 0 _).mono ?_;rintro e w2 ⟨rfl,hb⟩;refine HK.out _ _ ⟨gT,wA,wC,?_,?_⟩
    ·rw[hAA.out]
     kernel_rfl
    ·rw[hSS.out]
     simp (decide:=true) only[og,Qj];exact(hst.under hb)
   iterate 2
    ·rintro L w' K HK a ⟨gT,wA,wC,rfl,hst⟩
     rw[hSS.out] at hst;rw[hAA.out];simp (decide:=true) only[ot,og,oo,Qg,Qe,Qj] at hst ⊢;rw[if_pos (by rfl)];go_simp;refine HK.out _ _ ⟨gT,wA,wC,?_,?_⟩
     ·rw[hAA.out]
      kernel_rfl
     ·rw[hSS.out]
      simp (decide:=true) only[og,Qj];exact hst
   ·rintro L w' K HK a ⟨gT,wA,wC,rfl,hst⟩
    rw[hSS.out] at hst;rw[hAA.out];simp (decide:=true) only[ot,og,oo,Qg,Qe,Qj] at hst ⊢;rw[if_pos (by rfl)];go_simp;refine(Kn 2 _).mono ?_;rintro e w2 ⟨rfl,hb⟩;refine HK.out _ _ ⟨gT,wA,wC,?_,?_⟩
    ·rw[hAA.out]
     kernel_rfl
    ·rw[hSS.out]
     simp (decide:=true) only[og,Qj];exact(hst.under hb)
   ·rintro L w' K HK a ⟨gT,wA,wC,rfl,hst⟩
    rw[hSS.out] at hst;rw[hAA.out];simp (decide:=true) only[ot,og,oo,Qg,Qe,Qj] at hst ⊢;rw[if_pos (by rfl)];go_simp;refine HK.out _ _ ⟨gT,wA,wC,?_,?_⟩
    ·rw[hAA.out]
     kernel_rfl
    ·rw[hSS.out]
     simp (decide:=true) only[og,Qj];exact hst
   ·rintro L w' K HK a ⟨gT,wA,wC,rfl,hst⟩
    rw[hSS.out] at hst;rw[hAA.out];simp (decide:=true) only[ot,og,oo,Qg,Qe,Qj] at hst ⊢;rw[if_pos (by rfl)];go_simp;refine HK.out _ _ ⟨w'.heap.size,wA,wC,?_,?_⟩
    ·rw[hAA.out]
     kernel_rfl
    ·rw[hSS.out]
     simp (decide:=true) only[ot,Qj];exact((hst.alloc 38 #[.string ⟨#[97,47,118,49]⟩,.int .i64 1,.int .i64 0,.int .i64 0,.string ⟨#[98,47,118,49]⟩,.int .i64 1,.int .i64 2,.int .i64 0]).pk [0,2,3,4,5,6,7,8,9,10,11,12,13,14])
   ·rintro L w' K HK a ⟨gT,wA,wC,rfl,hst⟩
    rw[hSS.out] at hst;rw[hAA.out];simp (decide:=true) only[ot,og,Qg,Qe,Qj] at hst ⊢;have hX:Qx w' (fun k=>w.heap.size≤k) (.slice (some ⟨gR,0,none⟩) 4 4) (Jl (.slice (some ⟨gQ,0,none⟩) 1 1)):=(hst.pk [6,7,8]).relsEx;have hT:Z9 w' (fun k=>w.heap.size≤k) (some ⟨gT,0,none⟩) ((Ke 2).flatMap Wm):=hst.blkRd;have hS:Z9 w' (fun k=>w.heap.size≤k) sA ((Ke 1).flatMap Wm):=(hst.pk [13]).ro;have HH:=Kd3 hX hS hT;clear hX hT hS;rw[if_pos (by rfl)];go_simp;refine(waves_ex _ _ none _ _ _ _ 0 0 _ _ _ w' HH.out.1 HH.out.2.1 HH.out.2.2 (HG.out.below hst.below)).mono ?_;rintro e w2 ⟨a1,c1,rfl,hb⟩;refine HK.out _ _ ⟨gT,a1,c1,?_,?_⟩
    ·rw[hAA.out]
     kernel_rfl
    ·rw[hSS.out]
     simp (decide:=true) only[ot,Qj];exact(hst.under hb)
   iterate 5
    ·rintro L w' K HK a ⟨gT,wA,wC,rfl,hst⟩
     rw[hSS.out] at hst;rw[hAA.out];simp (decide:=true) only[ot,og,oo,Qg,Qe,Qj] at hst ⊢;rw[if_pos (by rfl)];go_simp;refine HK.out _ _ ⟨gT,wA,wC,?_,?_⟩
     ·rw[hAA.out]
      kernel_rfl
     ·rw[hSS.out]
      simp (decide:=true) only[ot,Qj];exact hst
   ·rintro L a w' ⟨gT,wA,wC,ha,hst⟩
    rw[hSS.out] at hst;rw[hAA.out] at ha;simp (decide:=true) only[ot] at hst ha;subst ha;clear hAA hSS AA SS;simp only[Qj] at hst;exact⟨rfl,gT,wA,wC,rfl,hst⟩
  case k=>
   rintro gT wA wC v13 y13;simp only[Qg];obtain⟨sb,so,rfl,-⟩:=Wb (y13.pk [13]).ro;have Y13:=Kd y13;clear y13 y12 Y12;go_wp2_with fail;have y14:=Y13.out;apply Ko (fun (qA:Option Addr) (qC gI:Nat) w'=>Below w.heap.size w w')
   case h=>
    obtain⟨AA,hAA⟩:∃ AA:(Nat→Bool)→Option Addr→Nat→Nat→Act,Hid (∀ L qA qC gI,AA L qA qC gI={ tmps:=List.toArray ((Aj (L 50) (.bool true) (.bool false))::(.func (.func 11) #[] #[])::(.pointer (some ⟨pI,0,none⟩))::(.slice (some ⟨gP,0,none⟩) 1 1)::(.slice (some ⟨sb,so,none⟩) 2 sC)::(.int .i64 0)::(.pointer (some ⟨pL,0,none⟩))::(.int .i64 0)::(.slice (some ⟨gK,0,none⟩) 1 kc)::(.int .i64 0)::(.slice wA 1 wC)::(.int .i64 0)::(.func (.func 11) #[] #[])::(.agg #[.int .i64 1,.int .i64 0,.int .i64 0])::(.agg #[.string ⟨Qo.toArray⟩,.slice (some ⟨gS,0,none⟩) 1 1])::(.slice (some ⟨gQ,0,none⟩) 1 1)::(.agg #[.string ⟨#[97,47,118,49]⟩,.int .i64 1,.int .i64 0,.int .i64 0,.slice (some ⟨gQ,0,none⟩) 1 1,.string ⟨#[]⟩,.string ⟨#[]⟩,.string ⟨#[]⟩,.bool false])::(.func (.func 11) #[] #[])::(.agg #[.int .i64 1,.int .i64 0,.int .i64 0])::(.agg #[.string ⟨#[98,47,118,49]⟩,.int .i64 1,.int .i64 0,.int .i64 0,.slice none 0 0,.string ⟨#[]⟩,.string ⟨#[]⟩,.string ⟨#[]⟩,.bool false])::(.func (.func 11) #[] #[])::(.agg #[.int .i64 1,.int .i64 1,.int .i64 0])::(.agg #[.string ⟨#[98,47,118,49]⟩,.int .i64 1,.int .i64 1,.int .i64 0,.slice none 0 0,.string ⟨#[]⟩,.string ⟨#[]⟩,.string ⟨#[]⟩,.bool false])::(.func (.func 11) #[] #[])::(.agg #[.int .i64 1,.int .i64 2,.int .i64 0])::(.agg #[.string ⟨#[98,47,118,49]⟩,.int .i64 1,.int .i64 2,.int .i64 0,.slice none 0 0,.string ⟨#[]⟩,.string ⟨#[]⟩,.string ⟨#[]⟩,.bool false])::(.slice (some ⟨gR,0,none⟩) 4 4)::(.agg #[.slice (some ⟨gR,0,none⟩) 4 4,.slice none 0 0])::(.agg #[.string ⟨Qq.toArray⟩,.slice (some ⟨gU,0,none⟩) 1 1])::(.slice (some ⟨gP,0,none⟩) 1 1)::(.tuple #[.slice (some ⟨sb,so,none⟩) 2 sC,.int .i64 0])::(.agg #[.slice (some ⟨gR,0,none⟩) 4 4,.slice none 0 0])::(.slice (some ⟨gP,0,none⟩) 1 1)::(.tuple #[.slice (some ⟨sb,so,none⟩) 2 sC,.int .i64 0])::(.slice (some ⟨sb,so,none⟩) 2 sC)::(.int .i64 0)::(.tuple #[.agg #[.slice tA 1 tC,.slice eA 2 eC,.slice jA 1 jC,.slice kA 0 kC],.int .i64 0])::(.agg #[.slice (some ⟨gR,0,none⟩) 4 4,.slice none 0 0])::(.slice (some ⟨gP,0,none⟩) 1 1)::(.tuple #[.agg #[.slice tA 1 tC,.slice eA 2 eC,.slice jA 1 jC,.slice kA 0 kC],.int .i64 0])::(.agg #[.slice tA 1 tC,.slice eA 2 eC,.slice jA 1 jC,.slice kA 0 kC])::(.int .i64 0)::(.tuple #[.slice (some ⟨gK,0,none⟩) 1 kc,.int .i64 0])::(.agg #[.slice (some ⟨gR,0,none⟩) 4 4,.slice none 0 0])::(.agg #[.string ⟨Qq.toArray⟩,.slice (some ⟨gV,0,none⟩) 1 1])::(.agg #[.string ⟨Qo.toArray⟩,.slice (some ⟨gW,0,none⟩) 1 1])::(.slice (some ⟨gZ,0,none⟩) 2 2)::(.tuple #[.slice (some ⟨gK,0,none⟩) 1 kc,.int .i64 0])::(.slice (some ⟨gK,0,none⟩) 1 kc)::(.int .i64 0)::(.tuple #[.slice wA 1 wC,.int .i64 0])::(.agg #[.slice (some ⟨gR,0,none⟩) 4 4,.slice none 0 0])::(.slice (some ⟨sb,so,none⟩) 2 sC)::(.func (.func 11) #[] #[])::(.agg #[.int .i64 1,.int .i64 0,.int .i64 0])::(.agg #[.string ⟨#[97,47,118,49]⟩,.int .i64 1,.int .i64 0,.int .i64 0])::(.func (.func 11) #[] #[])::(.agg #[.int .i64 1,.int .i64 2,.int .i64 0])::(.agg #[.string ⟨#[98,47,118,49]⟩,.int .i64 1,.int .i64 2,.int .i64 0])::(.slice (some ⟨gT,0,none⟩) 2 2)::(.tuple #[.slice wA 1 wC,.int .i64 0])::(.slice wA 1 wC)::(.int .i64 0)::(sl (L 0) (.int .i64 0))::(sl (L 1) (.bool true))::(sl (L 2) (.bool true))::(sl (L 3) (.slice (some ⟨sb,so,none⟩) 2 sC))::(sl (L 4) (.int .i64 2))::(sl (L 5) (.bool true))::(sl (L 6) (.bool true))::(sl (L 7) (.bool true))::(sl (L 8) (.slice (some ⟨sb,so,none⟩) 2 sC))::(sl (L 9) (.pointer (some ⟨sb,so+4,none⟩)))::(sl (L 10) (.pointer (some ⟨sb,so+4+1,none⟩)))::(sl (L 11) (.agg #[.int .i64 1,.int .i64 1,.int .i64 0]))::(sl (L 12) (.func (.func 11) #[] #[]))::(sl (L 13) (.agg #[.int .i64 1,.int .i64 1,.int .i64 0]))::(sl (L 14) (.bool true))::(sl (L 15) (.bool true))::(sl (L 16) (.bool true))::(sl (L 17) (.int .i64 0))::(sl (L 18) (.bool true))::(sl (L 19) (.bool true))::(sl (L 20) (.bool true))::(sl (L 21) (.agg #[.slice (some ⟨gR,0,none⟩) 4 4,.slice none 0 0]))::(sl (L 22) (.agg #[.slice tA 1 tC,.slice eA 2 eC,.slice jA 1 jC,.slice kA 0 kC]))::(sl (L 23) (.int .i64 0))::(sl (L 24) (.bool true))::(sl (L 25) (.bool true))::(sl (L 26) (.bool true))::(sl (L 27) (.agg #[.slice tA 1 tC,.slice eA 2 eC,.slice jA 1 jC,.slice kA 0 kC]))::(sl (L 28) (.slice qA 2 qC))::(sl (L 29) (.slice (some ⟨sb,so,none⟩) 2 sC))::(sl (L 30) (.bool true))::(sl (L 31) (.bool true))::(sl (L 32) (.bool true))::(sl (L 33) (.int .i64 0))::(sl (L 34) (.bool true))::(sl (L 35) (.bool true))::(sl (L 36) (.bool true))::(sl (L 37) (.slice (some ⟨gK,0,none⟩) 1 kc))::(sl (L 38) (.slice (some ⟨gI,0,none⟩) 1 1))::(sl (L 39) (.bool true))::(sl (L 40) (.bool true))::(sl (L 41) (.bool true))::(sl (L 42) (.int .i64 0))::(sl (L 43) (.bool true))::(sl (L 44) (.bool true))::(sl (L 45) (.bool true))::(sl (L 46) (.slice wA 1 wC))::(sl (L 47) (.int .i64 1))::(sl (L 48) (.bool true))::(sl (L 49) (.bool true))::[]),defers:=[] }):=⟨_,Kd fun _ _ _ _=>rfl⟩;obtain⟨SS,hSS⟩:∃ SS:(Nat→Bool)→Option Addr→Nat→Nat→World→Prop,Hid (∀ L qA qC gI w',SS L qA qC gI w'=(St w.heap.size w w' [Qj (L 28) (Ja 4 (.slice qA 2 qC) 2 ((exL.map Prod.fst).flatMap Wm)),Qj (L 38) (Qa gI 3 #[.int .i64 1]),Qa gT 38 #[.string ⟨#[97,47,118,49]⟩,.int .i64 1,.int .i64 0,.int .i64 0,.string ⟨#[98,47,118,49]⟩,.int .i64 1,.int .i64 2,.int .i64 0],Qa gV 79 #[.int .i64 0,.int .i64 1000000],Qa gW 79 #[.int .i64 3000,.int .i64 1000000],Qa gZ 43 #[.string ⟨Qq.toArray⟩,.slice (some ⟨gV,0,none⟩) 1 1,.string ⟨Qo.toArray⟩,.slice (some ⟨gW,0,none⟩) 1 1],Qh 3 1 (.slice (some ⟨gK,0,none⟩) 1 kc) 1 [.int .i64 1],Qa pI 25 #[.slice (some ⟨gR,0,none⟩) 4 4,.slice none 0 0],Qa gR 46 #[.string ⟨#[97,47,118,49]⟩,.int .i64 1,.int .i64 0,.int .i64 0,.slice (some ⟨gQ,0,none⟩) 1 1,.string ⟨#[]⟩,.string ⟨#[]⟩,.string ⟨#[]⟩,.bool false,.string ⟨#[98,47,118,49]⟩,.int .i64 1,.int .i64 0,.int .i64 0,.slice none 0 0,.string ⟨#[]⟩,.string ⟨#[]⟩,.string ⟨#[]⟩,.bool false,.string ⟨#[98,47,118,49]⟩,.int .i64 1,.int .i64 1,.int .i64 0,.slice none 0 0,.string ⟨#[]⟩,.string ⟨#[]⟩,.string ⟨#[]⟩,.bool false,.string ⟨#[98,47,118,49]⟩,.int .i64 1,.int .i64 2,.int .i64 0,.slice none 0 0,.string ⟨#[]⟩,.string ⟨#[]⟩,.string ⟨#[]⟩,.bool false],Qa gQ 43 #[.string ⟨Qo.toArray⟩,.slice (some ⟨gS,0,none⟩) 1 1],Qa gS 79 #[.int .i64 1000,.int .i64 1000000],Qa pL 51 #[.slice tA 1 tC,.slice eA 2 eC,.slice jA 1 jC,.slice kA 0 kC],rqR (.slice tA 1 tC) Bk,Xl eA (exL.flatMap enC),Xl jA (exI.flatMap Xj),Xl (some ⟨sb,so,none⟩) ((Ke 1).flatMap Wm)])):=⟨_,Kd fun _ _ _ _ _=>rfl⟩;refine Vt (by kernel_rfl) [(0,2251799813685247,1),(1,2251799813685246,3),(3,2251799813685244,7),(7,2251799813685240,15),(15,2251799813685232,31),(31,2251799813685216,63),(63,2251799813685184,127),(127,2251799813685120,255),(255,2251799813672704,511),(511,2251799813672448,1023),(1023,2251799813671936,2047),(2047,2251799813670912,4095),(255,2251799813681152,4351),(4351,2251799813677056,12543),(16383,2251799813668864,32767),(32767,2251799813652480,65535),(65535,2251799813619712,131071),(131071,2251799813554176,262143),(262143,2251799813423104,524287),(524287,2251799813160960,1048575),(1048575,2251799812636672,2097151),(2097151,2251799807393792,4194303),(2097151,2251799809490944,6291455),(8388607,2251799805296640,16777215),(16777215,2251799796908032,33554431),(33554431,2251799780130816,67108863),(67108863,2251799746576384,134217727),(134217727,2251799142596608,268435455),(268435455,2251799008378880,536870911),(134217727,2251799276814336,671088639),(1073741823,2251798739943424,2147483647),(2147483647,2251797666201600,4294967295),(4294967295,2251795518717952,8589934591),(8589934591,2251791223750656,17179869183),(17179869183,2251782633816064,34359738367),(34359738367,2251765453946880,68719476735),(68719476735,2251731094208512,137438953471),(137438953471,2251387496824832,274877906943),(137438953471,2251524935778304,412316860415),(549755813887,2251250057871360,1099511627775),(1099511627775,2250700302057472,2199023255551),(2199023255551,2249600790429696,4398046511103),(4398046511103,2247401767174144,8796093022207),(8796093022207,2243003720663040,17592186044415),(17592186044415,2234207627640832,35184372088831),(35184372088831,2216615441596416,70368744177663),(70368744177663,2181431069507584,140737488355327),(140737488355327,2111062325329920,281474976710655),(281474976710655,1970324836974592,562949953421311),(562949953421311,1688849860263936,1125899906842623),(1125899906842623,1125899906842624,2251799813685247)] 2251799813685247 (fun L a w'=>∃(qA:Option Addr) (qC:Nat) (gI:Nat),a=AA L qA qC gI∧SS L qA qC gI w') (by kernel_rfl) (by kernel_rfl) (by kernel_rfl) ?_ ⟨?_,?_,?_,?_,?_,?_,?_,?_,?_,?_,?_,?_,?_,?_,?_,?_,?_,?_,?_,?_,?_,?_,?_,?_,?_,?_,?_,?_,?_,?_,?_,?_,?_,?_,?_,?_,?_,?_,?_,?_,?_,?_,?_,?_,?_,?_,?_,?_,?_,?_,?_,trivial⟩ ?_
    ·simp only[hAA.out,hSS.out]
     exact⟨none,0,0,rfl,y14.drew.unit.unit⟩
    iterate 3
     ·rintro L w' K HK a ⟨qA,qC,gI,rfl,hst⟩
      rw[hSS.out] at hst;rw[hAA.out];simp (decide:=true) only[ot,og,Qg,Qe,Qb,Qj] at hst ⊢;rw[if_pos (by rfl)];go_simp;refine HK.out _ _ ⟨qA,qC,gI,?_,?_⟩
      ·rw[hAA.out]
       kernel_rfl
      ·rw[hSS.out]
       simp (decide:=true) only[og,Qj];exact hst
    iterate 3
     ·rintro L w' K HK a ⟨qA,qC,gI,rfl,hst⟩
      rw[hSS.out] at hst;rw[hAA.out];simp (decide:=true) only[ot,og,Qg,Qe,Qb,Qj] at hst ⊢;go_simp;refine HK.out _ _ ⟨qA,qC,gI,?_,?_⟩
      ·rw[hAA.out]
       kernel_rfl
      ·rw[hSS.out]
       simp (decide:=true) only[og,Qj];exact hst
    iterate 2
     ·rintro L w' K HK a ⟨qA,qC,gI,rfl,hst⟩
      rw[hSS.out] at hst;rw[hAA.out];simp (decide:=true) only[ot,og,Qg,Qe,Qb,Qj] at hst ⊢;rw[if_pos (by rfl)];go_simp;refine HK.out _ _ ⟨qA,qC,gI,?_,?_⟩
      ·rw[hAA.out]
       kernel_rfl
      ·rw[hSS.out]
       simp (decide:=true) only[og,Qj];exact hst
    iterate 3
     ·rintro L w' K HK a ⟨qA,qC,gI,rfl,hst⟩
      rw[hSS.out] at hst;rw[hAA.out];simp (decide:=true) only[ot,og,oo,Qg,Qe,Qb,Qj] at hst ⊢;go_simp;refine HK.out _ _ ⟨qA,qC,gI,?_,?_⟩
      ·rw[hAA.out]
       kernel_rfl
      ·rw[hSS.out]
       simp (decide:=true) only[og,Qj];exact hst
    ·rintro L w' K HK a ⟨qA,qC,gI,rfl,hst⟩
     rw[hSS.out] at hst;rw[hAA.out];simp (decide:=true) only[ot,og,oo,Qg,Qe,Qb,Qj] at hst ⊢;obtain⟨b',o',e',-,-,-,-,-,-,-,c5,c6,c7⟩:=Wb (hst.pk [15]).ro;obtain⟨rfl,rfl⟩:sb=b'∧so=o':=by simpa using Option.some.inj e'
     have d5:w'.cell? ⟨sb,so+4+1,none⟩=some (.int .i64 1):=c5;have d6:w'.cell? ⟨sb,so+4+1+1,none⟩=some (.int .i64 1):=c6;have d7:w'.cell? ⟨sb,so+4+1+2,none⟩=some (.int .i64 0):=c7;clear e';go_simp;refine HK.out _ _ ⟨qA,qC,gI,?_,?_⟩
     ·rw[hAA.out]
      kernel_rfl
     ·rw[hSS.out]
      simp (decide:=true) only[og,Qj];exact hst
    ·rintro L w' K HK a ⟨qA,qC,gI,rfl,hst⟩
     rw[hSS.out] at hst;rw[hAA.out];simp (decide:=true) only[ot,og,oo,Qg,Qe,Qb,Qj] at hst ⊢;go_simp;refine HK.out _ _ ⟨qA,qC,gI,?_,?_⟩
     ·rw[hAA.out]
      kernel_rfl
     ·rw[hSS.out]
      simp (decide:=true) only[og,Qj];exact hst
    ·rintro L w' K HK a ⟨qA,qC,gI,rfl,hst⟩
     rw[hSS.out] at hst;rw[hAA.out];simp (decide:=true) only[ot,og,oo,Qg,Qe,Qb,Qj] at hst ⊢;go_simp;refine(Kn 1 _).mono ?_;rintro e w2 ⟨rfl,hb⟩;refine HK.out _ _ ⟨qA,qC,gI,?_,?_⟩
     ·rw[hAA.out]
      kernel_rfl
     ·rw[hSS.out]
      simp (decide:=true) only[og,Qj];exact(hst.under hb)
    ·rintro L w' K HK a ⟨qA,qC,gI,rfl,hst⟩
     rw[hSS.out] at hst;rw[hAA.out];simp (decide:=true) only[ot,og,Qg,Qe,Qb,Qj] at hst ⊢;go_simp;refine HK.out _ _ ⟨qA,qC,gI,?_,?_⟩
     ·rw[hAA.out]
      kernel_rfl
     ·rw[hSS.out]
      simp (decide:=true) only[og,Qj];exact hst
    iterate 2
     ·rintro L w' K HK a ⟨qA,qC,gI,rfl,hst⟩
      rw[hSS.out] at hst;rw[hAA.out];simp (decide:=true) only[ot,og,Qg,Qe,Qb,Qj] at hst ⊢;rw[if_pos (by rfl)];go_simp;refine HK.out _ _ ⟨qA,qC,gI,?_,?_⟩
      ·rw[hAA.out]
       kernel_rfl
      ·rw[hSS.out]
       simp (decide:=true) only[og,Qj];exact hst
    iterate 2
     ·rintro L w' K HK a ⟨qA,qC,gI,rfl,hst⟩
      rw[hSS.out] at hst;rw[hAA.out];simp (decide:=true) only[ot,og,Qg,Qe,Qb,Qj] at hst ⊢;go_simp;refine HK.out _ _ ⟨qA,qC,gI,?_,?_⟩
      ·rw[hAA.out]
       kernel_rfl
      ·rw[hSS.out]
       simp (decide:=true) only[og,Qj];exact hst
    iterate 2
     ·rintro L w' K HK a ⟨qA,qC,gI,rfl,hst⟩
      rw[hSS.out] at hst;rw[hAA.out];simp (decide:=true) only[ot,og,Qg,Qe,Qb,Qj] at hst ⊢;rw[if_pos (by rfl)];go_simp;refine HK.out _ _ ⟨qA,qC,gI,?_,?_⟩
      ·rw[hAA.out]
       kernel_rfl
      ·rw[hSS.out]
       simp (decide:=true) only[og,Qj];exact hst
    ·rintro L w' K HK a ⟨qA,qC,gI,rfl,hst⟩
     rw[hSS.out] at hst;rw[hAA.out];simp (decide:=true) only[ot,og,oo,Qg,Qe,Qb,Qj] at hst ⊢;have bk0:=(hst.pk [7]).blk.cell 0;have bk1:=(hst.pk [7]).blk.cell 1;go_simp;refine HK.out _ _ ⟨qA,qC,gI,?_,?_⟩
     ·rw[hAA.out]
      kernel_rfl
     ·rw[hSS.out]
      simp (decide:=true) only[og,Qj];exact hst
    ·rintro L w' K HK a ⟨qA,qC,gI,rfl,hst⟩
     rw[hSS.out] at hst;rw[hAA.out];simp (decide:=true) only[ot,og,oo,Qg,Qe,Qb,Qj] at hst ⊢;obtain⟨bk0,bk1,bk2,G4⟩:w'.cell? ⟨pL,0,none⟩=some (.slice tA 1 tC)∧w'.cell? ⟨pL,1,none⟩=some (.slice eA 2 eC)∧w'.cell? ⟨pL,2,none⟩=some (.slice jA 1 jC)∧w'.cell? ⟨pL,3,none⟩=some (.slice kA 0 kC):=⟨(hst.pk [11]).blk.cell 0,(hst.pk [11]).blk.cell 1,(hst.pk [11]).blk.cell 2,(hst.pk [11]).blk.cell 3⟩;go_simp;refine HK.out _ _ ⟨qA,qC,gI,?_,?_⟩
     ·rw[hAA.out]
      kernel_rfl
     ·rw[hSS.out]
      simp (decide:=true) only[og,Qj];exact hst
    ·rintro L w' K HK a ⟨qA,qC,gI,rfl,hst⟩
     rw[hSS.out] at hst;rw[hAA.out];simp (decide:=true) only[ot,og,Qg,Qe,Qb,Qj] at hst ⊢;have hX:Qx w' (fun k=>w.heap.size≤k) (.slice (some ⟨gR,0,none⟩) 4 4) (Jl (.slice (some ⟨gQ,0,none⟩) 1 1)):=(hst.pk [8,9,10]).relsEx;have HH:=Kd4 hX (hst.pk [12]).rq (hst.pk [13]).ro (hst.pk [14]).ro;clear hX;go_simp;refine(verify_ex _ _ none _ _ _ _ _ _ 0 0 _ _ _ _ _ w' HH.out.1 HH.out.2.1 HH.out.2.2.1 HH.out.2.2.2 (HG.out.below hst.below)).mono ?_;rintro e w2 ⟨rfl,hb⟩;refine HK.out _ _ ⟨qA,qC,gI,?_,?_⟩
     ·rw[hAA.out]
      kernel_rfl
     ·rw[hSS.out]
      simp (decide:=true) only[og,Qj];exact(hst.under hb)
    ·rintro L w' K HK a ⟨qA,qC,gI,rfl,hst⟩
     rw[hSS.out] at hst;rw[hAA.out];simp (decide:=true) only[ot,og,Qg,Qe,Qb,Qj] at hst ⊢;go_simp;refine HK.out _ _ ⟨qA,qC,gI,?_,?_⟩
     ·rw[hAA.out]
      kernel_rfl
     ·rw[hSS.out]
      simp (decide:=true) only[og,Qj];exact hst
    iterate 2
     ·rintro L w' K HK a ⟨qA,qC,gI,rfl,hst⟩
      rw[hSS.out] at hst;rw[hAA.out];simp (decide:=true) only[ot,og,Qg,Qe,Qb,Qj] at hst ⊢;rw[if_pos (by rfl)];go_simp;refine HK.out _ _ ⟨qA,qC,gI,?_,?_⟩
      ·rw[hAA.out]
       kernel_rfl
      ·rw[hSS.out]
       simp (decide:=true) only[og,Qj];exact hst
    ·rintro L w' K HK a ⟨qA,qC,gI,rfl,hst⟩
     rw[hSS.out] at hst;rw[hAA.out];simp (decide:=true) only[ot,og,oo,Qg,Qe,Qb,Qj] at hst ⊢;obtain⟨bk0,bk1,bk2,G4⟩:w'.cell? ⟨pL,0,none⟩=some (.slice tA 1 tC)∧w'.cell? ⟨pL,1,none⟩=some (.slice eA 2 eC)∧w'.cell? ⟨pL,2,none⟩=some (.slice jA 1 jC)∧w'.cell? ⟨pL,3,none⟩=some (.slice kA 0 kC):=⟨(hst.pk [11]).blk.cell 0,(hst.pk [11]).blk.cell 1,(hst.pk [11]).blk.cell 2,(hst.pk [11]).blk.cell 3⟩;go_simp;refine HK.out _ _ ⟨qA,qC,gI,?_,?_⟩
     ·rw[hAA.out]
      kernel_rfl
     ·rw[hSS.out]
      simp (decide:=true) only[og,Qj];exact hst
    ·rintro L w' K HK a ⟨qA,qC,gI,rfl,hst⟩
     rw[hSS.out] at hst;rw[hAA.out];simp (decide:=true) only[ot,og,oo,Qg,Qe,Qb,Qj] at hst ⊢;have HH:=Kd (hst.pk [13]).ro;go_simp;refine(Pk exL _ _ _ eA eC _ w' HH.out (by decide) rfl rfl rfl).mono ?_;rintro e w2 ⟨A',c',rfl,z⟩;refine HK.out _ _ ⟨A',c',gI,?_,?_⟩
     ·rw[hAA.out]
      kernel_rfl
     ·rw[hSS.out]
      simp (decide:=true) only[ot,og,Qj];exact((hst.graft z).pk [0,2,3,4,5,6,7,8,9,10,11,12,13,14,15,16])
    ·rintro L w' K HK a ⟨qA,qC,gI,rfl,hst⟩
     rw[hSS.out] at hst;rw[hAA.out];simp (decide:=true) only[ot,og,oo,Qg,Qe,Qb,Qj] at hst ⊢;go_simp;refine HK.out _ _ ⟨qA,qC,gI,?_,?_⟩
     ·rw[hAA.out]
      kernel_rfl
     ·rw[hSS.out]
      simp (decide:=true) only[og,oo,Qj];exact hst
    ·rintro L w' K HK a ⟨qA,qC,gI,rfl,hst⟩
     rw[hSS.out] at hst;rw[hAA.out];simp (decide:=true) only[ot,og,Qg,Qe,Qb,Qj] at hst ⊢;obtain⟨A1,c1,e1,h21,h22⟩:=hst.qu_form;obtain⟨rfl,-,rfl⟩:=Value.slice.inj e1;have HH:Hid (Xz w' (fun k=>w.heap.size≤k) (.slice qA 2 qC) (Ke 1)∧Xz w' (fun k=>w.heap.size≤k) (.slice (some ⟨sb,so,none⟩) 2 sC) (Ke 1)):=Kd ⟨⟨_,_,rfl,h21,h22,hst.quRd rfl⟩,⟨_,_,rfl,HSC.out.1,HSC.out.2,(hst.pk [15]).ro⟩⟩;clear e1 h21 h22;go_simp;refine(P5 (Ke 1) (Ke 1) _ _ _ _ w' HH.out.1 HH.out.2 (by decide)).mono ?_;rintro e w2 ⟨he,hb⟩;rw[decide_eq_true rfl] at he;subst he;refine HK.out _ _ ⟨qA,qC,gI,?_,?_⟩
     ·rw[hAA.out]
      kernel_rfl
     ·rw[hSS.out]
      simp (decide:=true) only[ot,og,Qj];exact(hst.under hb)
    iterate 2
     ·rintro L w' K HK a ⟨qA,qC,gI,rfl,hst⟩
      rw[hSS.out] at hst;rw[hAA.out];simp (decide:=true) only[ot,og,Qg,Qe,Qb,Qj] at hst ⊢;rw[if_pos (by rfl)];go_simp;refine HK.out _ _ ⟨qA,qC,gI,?_,?_⟩
      ·rw[hAA.out]
       kernel_rfl
      ·rw[hSS.out]
       simp (decide:=true) only[ot,og,Qj];exact hst
    iterate 2
     ·rintro L w' K HK a ⟨qA,qC,gI,rfl,hst⟩
      rw[hSS.out] at hst;rw[hAA.out];simp (decide:=true) only[ot,og,Qg,Qe,Qb,Qj] at hst ⊢;go_simp;refine HK.out _ _ ⟨qA,qC,gI,?_,?_⟩
      ·rw[hAA.out]
       kernel_rfl
      ·rw[hSS.out]
       simp (decide:=true) only[ot,og,Qj];exact hst
    iterate 2
     ·rintro L w' K HK a ⟨qA,qC,gI,rfl,hst⟩
      rw[hSS.out] at hst;rw[hAA.out];simp (decide:=true) only[ot,og,Qg,Qe,Qb,Qj] at hst ⊢;rw[if_pos (by rfl)];go_simp;refine HK.out _ _ ⟨qA,qC,gI,?_,?_⟩
      ·rw[hAA.out]
       kernel_rfl
      ·rw[hSS.out]
       simp (decide:=true) only[ot,og,Qj];exact hst
    ·rintro L w' K HK a ⟨qA,qC,gI,rfl,hst⟩
     rw[hSS.out] at hst;rw[hAA.out];simp (decide:=true) only[ot,og,oo,Qg,Qe,Qb,Qj] at hst ⊢;go_simp;refine HK.out _ _ ⟨qA,qC,gI,?_,?_⟩
     ·rw[hAA.out]
      kernel_rfl
     ·rw[hSS.out]
      simp (decide:=true) only[ot,oo,Qj];exact hst
    ·rintro L w' K HK a ⟨qA,qC,gI,rfl,hst⟩
     rw[hSS.out] at hst;rw[hAA.out];simp (decide:=true) only[ot,og,oo,Qg,Qe,Qb,Qj] at hst ⊢;go_simp;refine HK.out _ _ ⟨qA,qC,w'.heap.size,?_,?_⟩
     ·rw[hAA.out]
      kernel_rfl
     ·rw[hSS.out]
      simp (decide:=true) only[ot,Qj];exact((hst.alloc 3 #[.int .i64 1]).pk [1,0,3,4,5,6,7,8,9,10,11,12,13,14,15,16])
    ·rintro L w' K HK a ⟨qA,qC,gI,rfl,hst⟩
     rw[hSS.out] at hst;rw[hAA.out];simp (decide:=true) only[ot,og,Qg,Qe,Qb,Qj] at hst ⊢;have HH:=Kd2 ((hst.pk [6]).cellAt (j:=0) (u:=.int .i64 1) rfl).1 (show w'.cell? ⟨gI,0,none⟩=some (.int .i64 1) from(hst.pk [1]).blk.cell 0);go_simp;refine(eqI_ex _ _ _ _ w' HH.out.1 HH.out.2).mono ?_;rintro e w2 ⟨rfl,hb⟩;refine HK.out _ _ ⟨qA,qC,gI,?_,?_⟩
     ·rw[hAA.out]
      kernel_rfl
     ·rw[hSS.out]
      simp (decide:=true) only[ot,Qj];exact(hst.under hb)
    iterate 2
     ·rintro L w' K HK a ⟨qA,qC,gI,rfl,hst⟩
      rw[hSS.out] at hst;rw[hAA.out];simp (decide:=true) only[ot,og,Qg,Qe,Qb,Qj] at hst ⊢;rw[if_pos (by rfl)];go_simp;refine HK.out _ _ ⟨qA,qC,gI,?_,?_⟩
      ·rw[hAA.out]
       kernel_rfl
      ·rw[hSS.out]
       simp (decide:=true) only[ot,Qj];exact hst
    iterate 2
     ·rintro L w' K HK a ⟨qA,qC,gI,rfl,hst⟩
      rw[hSS.out] at hst;rw[hAA.out];simp (decide:=true) only[ot,og,Qg,Qe,Qb,Qj] at hst ⊢;go_simp;refine HK.out _ _ ⟨qA,qC,gI,?_,?_⟩
      ·rw[hAA.out]
       kernel_rfl
      ·rw[hSS.out]
       simp (decide:=true) only[ot,Qj];exact hst
    iterate 2
     ·rintro L w' K HK a ⟨qA,qC,gI,rfl,hst⟩
      rw[hSS.out] at hst;rw[hAA.out];simp (decide:=true) only[ot,og,Qg,Qe,Qb,Qj] at hst ⊢;rw[if_pos (by rfl)];go_simp;refine HK.out _ _ ⟨qA,qC,gI,?_,?_⟩
      ·rw[hAA.out]
       kernel_rfl
      ·rw[hSS.out]
       simp (decide:=true) only[ot,Qj];exact hst
    iterate 3
     ·rintro L w' K HK a ⟨qA,qC,gI,rfl,hst⟩
      rw[hSS.out] at hst;rw[hAA.out];simp (decide:=true) only[ot,og,Qg,Qe,Qb,Qj] at hst ⊢;go_simp;refine HK.out _ _ ⟨qA,qC,gI,?_,?_⟩
      ·rw[hAA.out]
       kernel_rfl
      ·rw[hSS.out]
       simp (decide:=true) only[ot,Qj];exact hst
    iterate 2
     ·rintro L w' K HK a ⟨qA,qC,gI,rfl,hst⟩
      rw[hSS.out] at hst;rw[hAA.out];simp (decide:=true) only[ot,og,Qg,Qe,Qb,Qj] at hst ⊢;rw[if_pos (by rfl)];go_simp;refine HK.out _ _ ⟨qA,qC,gI,?_,?_⟩
      ·rw[hAA.out]
       kernel_rfl
      ·rw[hSS.out]
       simp (decide:=true) only[ot,Qj];exact hst
    ·rintro L a w' ⟨qA,qC,gI,ha,hst⟩
     rw[hSS.out] at hst;rw[hAA.out] at ha;simp (decide:=true) only[ot] at hst ha;subst ha;clear hAA hSS AA SS;simp only[Qj] at hst;exact⟨rfl,qA,qC,gI,rfl,hst.below⟩
   case k =>rintro qA qC gI v15 y15;simp only[Qg,Qd];have Y15:=Kd y15;clear y15 y14 Y13;go_wp2;go_ret;exact⟨rfl,Y15.out⟩
end Go.Proofs.YtiefajiebebgoaaGreatDoor
