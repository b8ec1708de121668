/- Lemmas and contracts on what the walks need, several small texts in one. Conditions: as each theorem states. -/
import Derived.Test.YtiefajiebebgoaaGreatDoorQHd
import Derived.Test.YtiefajiebebgoaaGreatDoorQPl
import Derived.Test.YtiefajiebebgoaaGreatDoorQPc
import Derived.Test.YtiefajiebebgoaaGreatDoorQPj
set_option maxRecDepth 20000
set_option maxHeartbeats 32000000
open Go.Proofs.Tryz
namespace Go.Proofs.YtiefajiebebgoaaGreatDoor
set_option linter.unusedVariables false
open Go.RowKit Go.Shelf
attribute [local go_sem] Oper.semAt_some
theorem Oy {P:Program} {c:Code} {Q:Exit→Act→World→Prop} {a:Act} {w:World} {α:Type} (S:α→α→α→α→α→α→α→World→Prop) {F:α→α→α→α→α→α→α→Act}
 (h:c.wp P (fun e a' w'=>e=Exit.normal∧∃ x1 x2 x3 x4 x5 x6 x7,a'=F x1 x2 x3 x4 x5 x6 x7∧S x1 x2 x3 x4 x5 x6 x7 w') a w) (k:∀ x1 x2 x3 x4 x5 x6 x7 w',S x1 x2 x3 x4 x5 x6 x7 w'→Q Exit.normal (F x1 x2 x3 x4 x5 x6 x7) w'):c.wp P Q a w:=
 Code.wp_mono (fun e a w hr=>by obtain⟨rfl,x1,x2,x3,x4,x5,x6,x7,rfl,hs⟩:=hr;exact k _ _ _ _ _ _ _ _ hs) h
theorem number_ex (sb:Nat) (w:World) (hs:w.cell? ⟨sb,0,none⟩=some (.slice none 0 0)):Calls prog 112 #[.slice (some ⟨sb,0,none⟩) 1 1] w fun e w'=>∃ gc,e=.returned (.tuple #[.slice (some ⟨gc,0,none⟩) 1 1,.int .i64 1])∧St w.heap.size w w' [Qh 3 1 (.slice (some ⟨gc,0,none⟩) 1 1) 1 [.int .i64 0]]:=by
 have y0:=(St.nil w).alloc 142 #[.slice (some ⟨sb,0,none⟩) 1 1];obtain⟨W0,hW0⟩:∃ W0,w.alloc (.cells #[.slice (some ⟨sb,0,none⟩) 1 1] 142)=W0:=⟨_,rfl⟩;rw[hW0] at y0;have HS:=Kd hs;clear hs;go_enter func112,ntmps112;go_wp2_with fail;clear hW0;apply Oy (fun (gi gl gx gc b4 b5 b6:Nat) w'=>St w.heap.size w w' [Qh 3 1 (.slice (some ⟨gi,0,none⟩) 1 1) 1 [.int .i64 0],Qh 3 1 (.slice (some ⟨gl,0,none⟩) 1 1) 1 [.int .i64 0],Qa gx 3 #[.int .i64 (-1)],Qh 3 1 (.slice (some ⟨gc,0,none⟩) 1 1) 1 [.int .i64 (-1)],Qa b4 54 #[.slice (some ⟨gi,0,none⟩) 1 1],Qa b5 54 #[.slice (some ⟨gl,0,none⟩) 1 1],Qa b6 54 #[.slice (some ⟨gc,0,none⟩) 1 1],Qa w.heap.size 142 #[.slice (some ⟨sb,0,none⟩) 1 1]])
 case h=>
  obtain⟨AA,hAA⟩:∃ AA:(Nat→Bool)→Nat→Nat→Nat→Nat→Nat→Nat→Nat→Act,Hid (∀ L gi gl gx gc b4 b5 b6,AA L gi gl gx gc b4 b5 b6={ tmps:=#[.slice (some ⟨sb,0,none⟩) 1 1,.pointer (some ⟨w.heap.size,0,none⟩),.slice none 0 0,.int .i64 0,sl (L 10) (.pointer (some ⟨b4,0,none⟩)),sl (L 11) (.pointer (some ⟨b5,0,none⟩)),sl (L 12) (.pointer (some ⟨b6,0,none⟩)),undef,undef,undef,undef,undef,sl (L 0) (.slice (some ⟨sb,0,none⟩) 1 1),sl (L 1) (.int .i64 1),sl (L 2) (.slice (some ⟨gi,0,none⟩) 1 1),sl (L 3) (.slice (some ⟨sb,0,none⟩) 1 1),sl (L 4) (.int .i64 1),sl (L 5) (.slice (some ⟨gl,0,none⟩) 1 1),sl (L 6) (.slice (some ⟨gx,0,none⟩) 1 1),sl (L 7) (.slice (some ⟨sb,0,none⟩) 1 1),sl (L 8) (.int .i64 1),sl (L 9) (.slice (some ⟨gc,0,none⟩) 1 1),undef,undef,undef,undef,undef,undef,undef,undef,undef,undef,undef,undef,undef,undef,undef,undef,undef],defers:=[] }):=⟨_,Kd fun _ _ _ _ _ _ _ _=>rfl⟩;obtain⟨SS,hSS⟩:∃ SS:(Nat→Bool)→Nat→Nat→Nat→Nat→Nat→Nat→Nat→World→Prop,Hid (∀ L gi gl gx gc b4 b5 b6 w',SS L gi gl gx gc b4 b5 b6 w'=(St w.heap.size w w' [Qj (L 2) (Qh 3 1 (.slice (some ⟨gi,0,none⟩) 1 1) 1 [.int .i64 0]),Qj (L 5) (Qh 3 1 (.slice (some ⟨gl,0,none⟩) 1 1) 1 [.int .i64 0]),Qj (L 6) (Qa gx 3 #[.int .i64 (-1)]),Qj (L 9) (Qh 3 1 (.slice (some ⟨gc,0,none⟩) 1 1) 1 [.int .i64 (-1)]),Qj (L 10) (Qa b4 54 #[Qc (L 13) (.slice (some ⟨gi,0,none⟩) 1 1) (.slice none 0 0)]),Qj (L 11) (Qa b5 54 #[Qc (L 14) (.slice (some ⟨gl,0,none⟩) 1 1) (.slice none 0 0)]),Qj (L 12) (Qa b6 54 #[Qc (L 15) (.slice (some ⟨gc,0,none⟩) 1 1) (.slice none 0 0)]),Qa (w.heap.size) 142 #[.slice (some ⟨sb,0,none⟩) 1 1]])):=⟨_,Kd fun _ _ _ _ _ _ _ _ _=>rfl⟩;refine Vt (by kernel_rfl) [(0,57351,1),(1,57350,3),(3,57348,7),(0,49208,8),(8,49200,24),(24,49184,56),(0,57920,64),(0,58240,128),(128,58112,384),(448,57856,960),(0,58368,1024),(0,59392,2048),(0,61440,4096),(8135,57344,16327),(16383,49152,32767),(32767,32768,65535)] 65535 (fun L a w'=>∃(gi:Nat) (gl:Nat) (gx:Nat) (gc:Nat) (b4:Nat) (b5:Nat) (b6:Nat),a=AA L gi gl gx gc b4 b5 b6∧SS L gi gl gx gc b4 b5 b6 w') (by kernel_rfl) (by kernel_rfl) (by kernel_rfl) ?_ ⟨?_,?_,?_,?_,?_,?_,?_,?_,?_,?_,?_,?_,?_,?_,?_,?_,trivial⟩ ?_
  ·simp only[hAA.out,hSS.out]
   exact⟨0,0,0,0,0,0,0,rfl,y0.drew.unit.unit.unit.unit.unit.unit.unit⟩
  ·rintro L w' K HK a ⟨gi,gl,gx,gc,b4,b5,b6,rfl,hst⟩
   rw[hSS.out] at hst;rw[hAA.out];simp (decide:=true) only[og,oo,Qe,Qj,Qc] at hst ⊢;have bk:=(hst.pk [7]).blk.cell 0;rw[if_pos (by rfl)];go_simp;refine HK.out _ _ ⟨gi,gl,gx,gc,b4,b5,b6,?_,?_⟩
   ·rw[hAA.out]
    kernel_rfl
   ·rw[hSS.out]
    simp (decide:=true) only[og,oo,Qj,Qc];exact hst
  ·rintro L w' K HK a ⟨gi,gl,gx,gc,b4,b5,b6,rfl,hst⟩
   rw[hSS.out] at hst;rw[hAA.out];simp (decide:=true) only[ot,og,oo,Qg,Qe,Qj,Qc] at hst ⊢;rw[if_pos (by rfl)];go_simp;refine HK.out _ _ ⟨gi,gl,gx,gc,b4,b5,b6,?_,?_⟩
   ·rw[hAA.out]
    kernel_rfl
   ·rw[hSS.out]
    simp (decide:=true) only[og,oo,Qj,Qc];exact hst
  ·rintro L w' K HK a ⟨gi,gl,gx,gc,b4,b5,b6,rfl,hst⟩
   rw[hSS.out] at hst;rw[hAA.out];simp (decide:=true) only[ot,og,oo,Qg,Qe,Qj,Qc] at hst ⊢;obtain⟨W1,hmk,y1⟩:=hst.madeN 1 (by decide);have hmk:(Instr.makeSlice 54 (.int .i64 1) (.int .i64 1)).run prog w'=.ok (.slice (some ⟨w'.heap.size,0,none⟩) 1 1) W1:=hmk;rw[if_pos (by rfl)];go_simp;refine HK.out _ _ ⟨w'.heap.size,gl,gx,gc,b4,b5,b6,?_,?_⟩
   ·rw[hAA.out]
    kernel_rfl
   ·rw[hSS.out]
    simp (decide:=true) only[ot,og,oo,Qj,Qc];exact(y1.pk [0,2,3,4,5,6,7,8])
  ·rintro L w' K HK a ⟨gi,gl,gx,gc,b4,b5,b6,rfl,hst⟩
   rw[hSS.out] at hst;rw[hAA.out];simp (decide:=true) only[og,oo,Qe,Qj,Qc] at hst ⊢;have bk:=(hst.pk [7]).blk.cell 0;rw[if_pos (by rfl)];go_simp;refine HK.out _ _ ⟨gi,gl,gx,gc,b4,b5,b6,?_,?_⟩
   ·rw[hAA.out]
    kernel_rfl
   ·rw[hSS.out]
    simp (decide:=true) only[og,oo,Qj,Qc];exact hst
  ·rintro L w' K HK a ⟨gi,gl,gx,gc,b4,b5,b6,rfl,hst⟩
   rw[hSS.out] at hst;rw[hAA.out];simp (decide:=true) only[ot,og,oo,Qg,Qe,Qj,Qc] at hst ⊢;rw[if_pos (by rfl)];go_simp;refine HK.out _ _ ⟨gi,gl,gx,gc,b4,b5,b6,?_,?_⟩
   ·rw[hAA.out]
    kernel_rfl
   ·rw[hSS.out]
    simp (decide:=true) only[og,oo,Qj,Qc];exact hst
  ·rintro L w' K HK a ⟨gi,gl,gx,gc,b4,b5,b6,rfl,hst⟩
   rw[hSS.out] at hst;rw[hAA.out];simp (decide:=true) only[ot,og,oo,Qg,Qe,Qj,Qc] at hst ⊢;obtain⟨W1,hmk,y1⟩:=hst.madeN 1 (by decide);have hmk:(Instr.makeSlice 54 (.int .i64 1) (.int .i64 1)).run prog w'=.ok (.slice (some ⟨w'.heap.size,0,none⟩) 1 1) W1:=hmk;rw[if_pos (by rfl)];go_simp;refine HK.out _ _ ⟨gi,w'.heap.size,gx,gc,b4,b5,b6,?_,?_⟩
   ·rw[hAA.out]
    kernel_rfl
   ·rw[hSS.out]
    simp (decide:=true) only[ot,og,oo,Qj,Qc];exact(y1.pk [1,0,3,4,5,6,7,8])
  ·rintro L w' K HK a ⟨gi,gl,gx,gc,b4,b5,b6,rfl,hst⟩
   rw[hSS.out] at hst;rw[hAA.out];simp (decide:=true) only[og,oo,Qe,Qj,Qc] at hst ⊢;rw[if_pos (by rfl)];go_simp;refine HK.out _ _ ⟨gi,gl,w'.heap.size,gc,b4,b5,b6,?_,?_⟩
   ·rw[hAA.out]
    kernel_rfl
   ·rw[hSS.out]
    simp (decide:=true) only[ot,og,oo,Qj,Qc];exact((hst.alloc 3 #[.int .i64 (-1)]).pk [1,2,0,4,5,6,7,8])
  ·rintro L w' K HK a ⟨gi,gl,gx,gc,b4,b5,b6,rfl,hst⟩
   rw[hSS.out] at hst;rw[hAA.out];simp (decide:=true) only[og,oo,Qe,Qj,Qc] at hst ⊢;have bk:=(hst.pk [7]).blk.cell 0;rw[if_pos (by rfl)];go_simp;refine HK.out _ _ ⟨gi,gl,gx,gc,b4,b5,b6,?_,?_⟩
   ·rw[hAA.out]
    kernel_rfl
   ·rw[hSS.out]
    simp (decide:=true) only[og,oo,Qj,Qc];exact hst
  ·rintro L w' K HK a ⟨gi,gl,gx,gc,b4,b5,b6,rfl,hst⟩
   rw[hSS.out] at hst;rw[hAA.out];simp (decide:=true) only[ot,og,oo,Qg,Qe,Qj,Qc] at hst ⊢;rw[if_pos (by rfl)];go_simp;refine HK.out _ _ ⟨gi,gl,gx,gc,b4,b5,b6,?_,?_⟩
   ·rw[hAA.out]
    kernel_rfl
   ·rw[hSS.out]
    simp (decide:=true) only[og,oo,Qj,Qc];exact hst
  ·rintro L w' K HK a ⟨gi,gl,gx,gc,b4,b5,b6,rfl,hst⟩
   rw[hSS.out] at hst;rw[hAA.out];simp (decide:=true) only[ot,og,oo,Qg,Qe,Qj,Qc] at hst ⊢;have hx:=(hst.pk [2]).blk.cell 0;rw[if_pos (by rfl)];go_simp;refine(rep_ex gx _ hx).mono ?_;rintro e w2 ⟨g,rfl,z⟩;refine HK.out _ _ ⟨gi,gl,gx,g,b4,b5,b6,?_,?_⟩
   ·rw[hAA.out]
    kernel_rfl
   ·rw[hSS.out]
    simp (decide:=true) only[ot,og,oo,Qj,Qc];exact((hst.graft z).pk [1,2,3,0,5,6,7,8])
  ·rintro L w' K HK a ⟨gi,gl,gx,gc,b4,b5,b6,rfl,hst⟩
   rw[hSS.out] at hst;rw[hAA.out];simp (decide:=true) only[og,oo,Qe,Qj,Qc] at hst ⊢;rw[if_pos (by rfl)];go_simp;refine HK.out _ _ ⟨gi,gl,gx,gc,w'.heap.size,b5,b6,?_,?_⟩
   ·rw[hAA.out]
    kernel_rfl
   ·rw[hSS.out]
    simp (decide:=true) only[ot,og,oo,Qj,Qc];exact((hst.alloc 54 #[.slice none 0 0]).pk [1,2,3,4,0,6,7,8])
  ·rintro L w' K HK a ⟨gi,gl,gx,gc,b4,b5,b6,rfl,hst⟩
   rw[hSS.out] at hst;rw[hAA.out];simp (decide:=true) only[og,oo,Qe,Qj,Qc] at hst ⊢;rw[if_pos (by rfl)];go_simp;refine HK.out _ _ ⟨gi,gl,gx,gc,b4,w'.heap.size,b6,?_,?_⟩
   ·rw[hAA.out]
    kernel_rfl
   ·rw[hSS.out]
    simp (decide:=true) only[ot,og,oo,Qj,Qc];exact((hst.alloc 54 #[.slice none 0 0]).pk [1,2,3,4,5,0,7,8])
  ·rintro L w' K HK a ⟨gi,gl,gx,gc,b4,b5,b6,rfl,hst⟩
   rw[hSS.out] at hst;rw[hAA.out];simp (decide:=true) only[og,oo,Qe,Qj,Qc] at hst ⊢;rw[if_pos (by rfl)];go_simp;refine HK.out _ _ ⟨gi,gl,gx,gc,b4,b5,w'.heap.size,?_,?_⟩
   ·rw[hAA.out]
    kernel_rfl
   ·rw[hSS.out]
    simp (decide:=true) only[ot,og,oo,Qj,Qc];exact((hst.alloc 54 #[.slice none 0 0]).pk [1,2,3,4,5,6,0,8])
  ·rintro L w' K HK a ⟨gi,gl,gx,gc,b4,b5,b6,rfl,hst⟩
   rw[hSS.out] at hst;rw[hAA.out];simp (decide:=true) only[ot,og,oo,Qg,Qj,Qc] at hst ⊢;have bk:=(hst.pk [4]).blk.cell 0;have bf:=(hst.pk [4]).blk.frozen 0;rw[if_pos (by rfl)];go_simp;refine HK.out _ _ ⟨gi,gl,gx,gc,b4,b5,b6,?_,?_⟩
   ·rw[hAA.out]
    kernel_rfl
   ·rw[hSS.out]
    simp (decide:=true) only[ot,og,oo,Qj,Qc];exact(((hst.pk [4,0,1,2,3,5,6,7]).set_ 0 (.slice (some ⟨gi,0,none⟩) 1 1)).pk [1,2,3,4,0,5,6,7])
  ·rintro L w' K HK a ⟨gi,gl,gx,gc,b4,b5,b6,rfl,hst⟩
   rw[hSS.out] at hst;rw[hAA.out];simp (decide:=true) only[ot,og,Qg,Qj,Qc] at hst ⊢;have bk:=(hst.pk [5]).blk.cell 0;have bf:=(hst.pk [5]).blk.frozen 0;rw[if_pos (by rfl)];go_simp;refine HK.out _ _ ⟨gi,gl,gx,gc,b4,b5,b6,?_,?_⟩
   ·rw[hAA.out]
    kernel_rfl
   ·rw[hSS.out]
    simp (decide:=true) only[ot,og,Qj,Qc];exact(((hst.pk [5,0,1,2,3,4,6,7]).set_ 0 (.slice (some ⟨gl,0,none⟩) 1 1)).pk [1,2,3,4,5,0,6,7])
  ·rintro L w' K HK a ⟨gi,gl,gx,gc,b4,b5,b6,rfl,hst⟩
   rw[hSS.out] at hst;rw[hAA.out];simp (decide:=true) only[ot,og,Qg,Qj,Qc] at hst ⊢;have bk:=(hst.pk [6]).blk.cell 0;have bf:=(hst.pk [6]).blk.frozen 0;rw[if_pos (by rfl)];go_simp;refine HK.out _ _ ⟨gi,gl,gx,gc,b4,b5,b6,?_,?_⟩
   ·rw[hAA.out]
    kernel_rfl
   ·rw[hSS.out]
    simp (decide:=true) only[ot,Qj,Qc];exact(((hst.pk [6,0,1,2,3,4,5,7]).set_ 0 (.slice (some ⟨gc,0,none⟩) 1 1)).pk [1,2,3,4,5,6,0,7])
  ·rintro L a w' ⟨gi,gl,gx,gc,b4,b5,b6,ha,hst⟩
   rw[hSS.out] at hst;rw[hAA.out] at ha;simp (decide:=true) only[ot] at hst ha;subst ha;clear hAA hSS AA SS;simp only[Qj,Qc] at hst;exact⟨rfl,gi,gl,gx,gc,b4,b5,b6,rfl,hst⟩
 case k=>
  rintro gi gl gx gc b4 b5 b6 w1 y1;simp only[Qg];have y2:=(((y1.alloc 54 #[.slice none 0 0]).alloc 3 #[.int .i64 1]).alloc 3 #[.int .i64 0]).alloc 277 #[.func (.func 171) #[] #[.pointer (some ⟨(w1.heap.size+1),0,none⟩),.pointer (some ⟨b4,0,none⟩),.pointer (some ⟨b5,0,none⟩),.pointer (some ⟨w1.heap.size,0,none⟩),.pointer (some ⟨w.heap.size,0,none⟩),.pointer (some ⟨(w1.heap.size+1+1+1),0,none⟩),.pointer (some ⟨b6,0,none⟩),.pointer (some ⟨(w1.heap.size+1+1),0,none⟩)]];simp only[World.size_alloc] at y2;have x0:=(y2.pk [11]).blk.cell 0;have Y2:=Kd y2;clear y2 y1 y0;go_wp2_with fail;clear x0;obtain⟨v2,hv⟩:∃ W,(((w1.alloc (.cells #[.slice none 0 0] 54)).alloc (.cells #[.int .i64 1] 3)).alloc (.cells #[.int .i64 0] 3)).alloc (.cells #[.func (.func 171) #[] #[.pointer (some ⟨(w1.heap.size+1),0,none⟩),.pointer (some ⟨b4,0,none⟩),.pointer (some ⟨b5,0,none⟩),.pointer (some ⟨w1.heap.size,0,none⟩),.pointer (some ⟨w.heap.size,0,none⟩),.pointer (some ⟨(w1.heap.size+1+1+1),0,none⟩),.pointer (some ⟨b6,0,none⟩),.pointer (some ⟨(w1.heap.size+1+1),0,none⟩)]] 277)=W:=⟨_,rfl⟩;rw[hv] at Y2 ⊢;clear hv;generalize w1.heap.size+1+1+1=pv at Y2 ⊢;generalize w1.heap.size+1+1=pt at Y2 ⊢;generalize w1.heap.size+1=pn at Y2 ⊢;generalize w1.heap.size=ps at Y2 ⊢;have c0:=(Y2.out.pk [8]).blk.cell 0;have c1:=((Y2.out.pk [4]).cellAt (j:=0) rfl).1;have c2:=(Y2.out.pk [0]).blk.cell 0;refine wp_loop_rounds 2 ?_;rw[rounds_succ];go_wp2_with fail;have kv:=visit1_ex pn pt ps b4 b5 b6 w.heap.size pv gi gl gc sb w.heap.size w v2 _ (fun W hW=>Wi hW HS.out) (Y2.out.pk [2,1,3,8,9,10,11,4,5,7,0]);refine kv.mono ?_;rintro e v3 ⟨rfl,y3⟩;have Y3:=Kd y3;clear kv y3 Y2 c0 c1 c2;go_wp2;rw[rounds_succ];go_wp2_with fail;have hS:∀ W',St w.heap.size w W' [Qa pt 3 #[.int .i64 1],Qa b6 54 #[.slice (some ⟨gc,0,none⟩) 1 1]]→W'.cell? ⟨pt,0,none⟩=some (.int .i64 1)∧W'.cell? ⟨b6,0,none⟩=some (.slice (some ⟨gc,0,none⟩) 1 1):=fun W' y=>⟨y.blk.cell 0,y.tail.blk.cell 0⟩;have s0:=hS _ (Y3.out.pk [0,1]);have s1:=hS _ (Y3.out.drew.pk [0,1]);clear hS;refine wp_region_noPanic ?_;refine wp_region_held_drew (S:=(fun W'=>W'.cell? ⟨pt,0,none⟩=some (.int .i64 1)∧W'.cell? ⟨b6,0,none⟩=some (.slice (some ⟨gc,0,none⟩) 1 1))) (by kernel_rfl) ?_ (fun hH0=>?_)
  ·(with_reducible exact s1)
  refine tk 0 37 hH0 ?_;refine tk 1 38 hH0 ?_;refine tk 2 2 hH0 ?_;refine tk 3 3 hH0 ?_;refine dn ?_ _
  all_goals(refine NoPanic.normal ?_)
  go_wp2;go_ret2;exact⟨_,rfl,(Y3.out.drew.pk [2])⟩
theorem St.own_one {lo:Nat} {w0 w:World} {Rs:List Q3} {e:TypeId} {v:Value} {xs:List Value} (h:St lo w0 w (Qh e 1 v 1 xs::Rs)):∃ g c,v=.slice (some ⟨g,0,none⟩) 1 c:=by
 obtain⟨-,h1⟩:=h.own;rcases h1 with⟨-,h1⟩|⟨g,cap,cur,rfl,-⟩
 ·cases h1
 ·exact⟨g,cap,rfl⟩
theorem St.ownNil {lo:Nat} {w0 w:World} {Rs:List Q3} (h:St lo w0 w Rs) (size:Nat) (e:TypeId):St lo w0 w (Qh e size (.slice none 0 0) 0 []::Rs):=
 h.new_own (e:=e) (size:=size) (Below.refl _ w) ⟨by rw[Nat.zero_mul];rfl,.inl ⟨rfl,rfl⟩⟩
theorem G8 {o:Oper} {a:Act} {w w':World} {K:Act→World→Prop} {Q:Exit→Act→World→Prop} {v y r:Value} (t:TypeId) (s x:Operand) (ho:o.op=.call { callee:=.builtin .append,args:=#[s,x],argTypes:=#[t,t] }) (hs:a.eval s=v) (hx:a.eval x=y)
 (hrun:(Builtin.append_ #[t,t] o.type #[v,y]).run prog w=.ok r w') (hk:K (a.put o.dst r) w'):o.wp prog a w K Q:=by
 unfold Oper.wp;simp[execOp,ho,resolve,invoke,builtin,hs,hx,hrun,Result.andThen];exact hk
theorem Ko {P:Program} {c:Code} {Q:Exit→Act→World→Prop} {a:Act} {w:World} {α β γ:Type} (S:α→β→γ→World→Prop) {F:α→β→γ→Act}
 (h:c.wp P (fun e a' w'=>e=Exit.normal∧∃ x1 x2 x3,a'=F x1 x2 x3∧S x1 x2 x3 w') a w) (k:∀ x1 x2 x3 w',S x1 x2 x3 w'→Q Exit.normal (F x1 x2 x3) w'):c.wp P Q a w:=
 Code.wp_mono (fun e a w hr=>by obtain⟨rfl,x1,x2,x3,rfl,hs⟩:=hr;exact k _ _ _ _ hs) h
theorem Ih (gA:Option Addr) (gC:Nat) (w:World):Calls prog 67 #[.agg #[.slice gA 1 gC,.slice none 0 0]] w fun e w'=>∃ gg gG sg aA aC,e=.returned (.tuple #[.slice (some ⟨gg,0,none⟩) 1 gG,.slice (some ⟨sg,0,none⟩) 1 1])∧St w.heap.size w w' [Qh 54 1 (.slice (some ⟨gg,0,none⟩) 1 gG) 1 [.slice aA 1 aC],Ja 1 (.slice aA 1 aC) 1 [.int .i64 0],Qh 54 1 (.slice (some ⟨sg,0,none⟩) 1 1) 1 [.slice none 0 0]]:=by
 have y0:=(St.nil w).alloc 137 #[.slice gA 1 gC,.slice none 0 0];have x0:=y0.blk.cell 0;have x1:=y0.blk.cell 1;have Y0:=Kd y0.below;obtain⟨W0,hW0⟩:∃ W,w.alloc (.cells #[.slice gA 1 gC,.slice none 0 0] 137)=W:=⟨_,rfl⟩;rw[hW0] at Y0 x0 x1;clear y0;refine Ka func67 rfl ?_;simp only[ntmps67,List.size_toArray,List.length_cons,List.length_nil,Nat.reduceAdd,Nat.reduceSub,Array.replicate_succ,Array.replicate_zero,List.push_toArray,List.append_toArray,List.nil_append,List.cons_append];go_wp2_with fail;clear hW0;refine(newSucc_ex gA gC _).mono ?_;rintro e v1 ⟨sb,rfl,z1⟩;have q1:=(z1.cellAt (j:=0) (u:=.slice none 0 0) rfl).1;have y1:=(St.nil w).under Y0.out;have Y1:=Kd (y1.graft z1);clear z1 y1 x0 x1 Y0;go_wp2_with fail;refine(number_ex sb v1 q1).mono ?_;rintro e v2 ⟨gc,rfl,z2⟩;have y2:=(Y1.out.graft z2).alloc 54 #[.slice (some ⟨gc,0,none⟩) 1 1];have y3:=y2.alloc 3 #[.int .i64 (-1)];have x0:=y3.blk.cell 0;simp only[World.size_alloc] at x0 y3;have YY:=Kd y3;clear q1 z2 y2 y3 Y1;go_wp2_with fail;refine(rep_ex (v2.heap.size+1) _ x0).mono ?_;rintro e v3 ⟨gr,rfl,z3⟩;have y4:=(YY.out.graft z3).alloc 54 #[.slice (some ⟨gr,0,none⟩) 1 1];have x1:=(y4.pk [3]).blk.cell 0;have Y4:=Kd (y4.pk [0,1,3,4,5]);clear x0 y4 z3 YY;go_wp2_with fail;clear x1;obtain⟨v4,hv⟩:∃ W,v3.alloc (.cells #[.slice (some ⟨gr,0,none⟩) 1 1] 54)=W:=⟨_,rfl⟩;rw[hv] at Y4 ⊢;clear hv;generalize v3.heap.size=p7 at Y4 ⊢;generalize v2.heap.size=p5 at Y4 ⊢;have c0:=((Y4.out.pk [3]).cellAt (j:=0) (u:=.int .i64 0) rfl).1;have c1:=Y4.out.blk.cell 0;have y5:=(Y4.out.pk [1,0,2,3,4]);obtain⟨c2,f2⟩:=y5.cellAt (j:=0) (u:=.int .i64 (-1)) rfl;have y6:=y5.storeO 0 (.int .i64 0);have H6:=Kd (y6.ownNil 1 54);clear y5 y6;have b1:(0+1)*24≤140737488355328:=by decide
 have b2:0+1≤maxLen:=by decide
 refine wp_loop_rounds 2 ?_;rw[rounds_succ];go_wp2_with (at_builtin;go_must (refine Vr 140 (te:=54) (u:=.slice none 0 0) H6.out underlying140 Gp rfl rfl _ _ rfl rfl (by rw[show (v4.setCell ⟨gr,0,none⟩ (.int .i64 0)).heap.size=v4.heap.size by simp[World.setCell]];rfl) rfl b2 b1 ?_);intro vg v5 h7);clear c0 c1 c2 f2 b1 b2 H6;obtain⟨gg,gG,rfl⟩:=h7.own_one;generalize v4.heap.size=s4;have y7:St w.heap.size w v5 [Qh 54 1 (.slice (some ⟨gg,0,none⟩) 1 gG) 1 [.slice none 0 0],Qh 3 1 (.slice (some ⟨gr,0,none⟩) 1 1) 1 [.int .i64 0],Qa p7 54 #[.slice (some ⟨gr,0,none⟩) 1 1],Qa p5 54 #[.slice (some ⟨gc,0,none⟩) 1 1],Qh 3 1 (.slice (some ⟨gc,0,none⟩) 1 1) 1 [.int .i64 0],Qh 54 1 (.slice (some ⟨sb,0,none⟩) 1 1) 1 [.slice none 0 0]]:=h7;have y8:=(y7.pk [0,2,1,3,4,5]);clear y7 h7 Y4;apply Ko (fun (gx:Nat) (aA:Option Addr) (aC:Nat) w'=>St w.heap.size w w' [Ja 1 (.slice aA 1 aC) 1 [.int .i64 0],Qh 54 1 (.slice (some ⟨gg,0,none⟩) 1 gG) 1 [.slice aA 1 aC],Qa p7 54 #[.slice (some ⟨gr,0,none⟩) 1 1],Qh 3 1 (.slice (some ⟨gr,0,none⟩) 1 1) 1 [.int .i64 0],Qa p5 54 #[.slice (some ⟨gc,0,none⟩) 1 1],Qh 3 1 (.slice (some ⟨gc,0,none⟩) 1 1) 1 [.int .i64 0],Qh 54 1 (.slice (some ⟨sb,0,none⟩) 1 1) 1 [.slice none 0 0]])
 case h=>
  obtain⟨AA,hAA⟩:∃ AA:(Nat→Bool)→Nat→Option Addr→Nat→Act,Hid (∀ L gx aA aC,AA L gx aA aC={ tmps:=List.toArray ((.agg #[.slice gA 1 gC,.slice none 0 0])::(.pointer (some ⟨w.heap.size,0,none⟩))::(.slice none 0 0)::(.slice none 0 0)::(.slice (some ⟨sb,0,none⟩) 1 1)::(.pointer (some ⟨p5,0,none⟩))::(.int .i64 1)::(.pointer (some ⟨p7,0,none⟩))::(.slice (some ⟨gg,0,none⟩) 1 gG)::(.int .i64 0)::(.int .i64 0)::(undef)::(undef)::(undef)::(undef)::(undef)::(.agg #[.slice gA 1 gC,.slice none 0 0])::(.slice (some ⟨sb,0,none⟩) 1 1)::(.tuple #[.slice (some ⟨gc,0,none⟩) 1 1,.int .i64 1])::(.slice (some ⟨sb,0,none⟩) 1 1)::(.tuple #[.slice (some ⟨gc,0,none⟩) 1 1,.int .i64 1])::(.slice (some ⟨gc,0,none⟩) 1 1)::(.int .i64 1)::(.slice (some ⟨p5+1,0,none⟩) 1 1)::(.int .i64 1)::(.slice (some ⟨gr,0,none⟩) 1 1)::(.slice (some ⟨gc,0,none⟩) 1 1)::(.int .i64 1)::(.int .i64 0)::(.bool true)::(.int .i64 0)::(.pointer (some ⟨gc,0,none⟩))::(.int .i64 0)::(.slice (some ⟨gr,0,none⟩) 1 1)::(.int .i64 0)::(.pointer (some ⟨gr,0,none⟩))::(.int .i64 (-1))::(.bool true)::(.slice (some ⟨gr,0,none⟩) 1 1)::(.int .i64 0)::(.slice none 0 0)::(.int .i64 0)::(.pointer (some ⟨gr,0,none⟩))::(.slice none 0 0)::(.slice (some ⟨s4,0,none⟩) 1 1)::(.slice (some ⟨gg,0,none⟩) 1 gG)::(sl (L 0) (.slice (some ⟨gg,0,none⟩) 1 gG))::(sl (L 1) (.slice (some ⟨gr,0,none⟩) 1 1))::(sl (L 2) (.int .i64 0))::(sl (L 3) (.pointer (some ⟨gr,0,none⟩)))::(sl (L 4) (.int .i64 0))::(sl (L 5) (.slice (some ⟨gg,0,none⟩) 1 gG))::(sl (L 6) (.slice (some ⟨gr,0,none⟩) 1 1))::(sl (L 7) (.int .i64 0))::(sl (L 8) (.pointer (some ⟨gr,0,none⟩)))::(sl (L 9) (.int .i64 0))::(sl (L 10) (.pointer (some ⟨gg,0,none⟩)))::(sl (L 11) (.slice none 0 0))::(sl (L 12) (.int .i64 0))::(sl (L 13) (.slice (some ⟨gx,0,none⟩) 1 1))::(sl (L 14) (.slice aA 1 aC))::(sl (L 15) (.pointer (some ⟨gg,0,none⟩)))::(undef)::(undef)::(undef)::(undef)::(undef)::(undef)::(undef)::(undef)::(undef)::(undef)::(undef)::(undef)::(undef)::(undef)::(undef)::(undef)::(undef)::(undef)::(undef)::(undef)::(undef)::(undef)::(undef)::(undef)::(undef)::(undef)::(undef)::(undef)::(undef)::(undef)::(undef)::(undef)::(undef)::(undef)::(undef)::(undef)::(undef)::(undef)::(undef)::(undef)::(undef)::(undef)::(undef)::(undef)::[]),defers:=[] }):=⟨_,Kd fun _ _ _ _=>rfl⟩;obtain⟨SS,hSS⟩:∃ SS:(Nat→Bool)→Nat→Option Addr→Nat→World→Prop,Hid (∀ L gx aA aC w',SS L gx aA aC w'=(St w.heap.size w w' [Qj (L 14) (Ja 1 (.slice aA 1 aC) 1 [.int .i64 0]),Qj (L 13) (Qa gx 3 #[.int .i64 0]),Qh 54 1 (.slice (some ⟨gg,0,none⟩) 1 gG) 1 [Qc (L 16) (.slice aA 1 aC) (.slice none 0 0)],Qa p7 54 #[.slice (some ⟨gr,0,none⟩) 1 1],Qh 3 1 (.slice (some ⟨gr,0,none⟩) 1 1) 1 [.int .i64 0],Qa p5 54 #[.slice (some ⟨gc,0,none⟩) 1 1],Qh 3 1 (.slice (some ⟨gc,0,none⟩) 1 1) 1 [.int .i64 0],Qh 54 1 (.slice (some ⟨sb,0,none⟩) 1 1) 1 [.slice none 0 0]])):=⟨_,Kd fun _ _ _ _ _=>rfl⟩;refine Vt (by kernel_rfl) [(0,98305,1),(0,98330,2),(0,98332,4),(6,98328,14),(14,98320,30),(0,117792,32),(0,118592,64),(0,118656,128),(192,118528,448),(448,118272,960),(992,117760,2016),(2016,116736,4064),(0,126976,4096),(4096,122880,12288),(16352,114688,32736),(32767,98304,65535),(65535,65536,131071)] 131071 (fun L a w'=>∃(gx:Nat) (aA:Option Addr) (aC:Nat),a=AA L gx aA aC∧SS L gx aA aC w') (by kernel_rfl) (by kernel_rfl) (by kernel_rfl) ?_ ⟨?_,?_,?_,?_,?_,?_,?_,?_,?_,?_,?_,?_,?_,?_,?_,?_,?_,trivial⟩ ?_
  ·simp only[hAA.out,hSS.out]
   exact⟨0,none,0,rfl,y8.drew.unit.unit⟩
  ·rintro L w' K HK a ⟨gx,aA,aC,rfl,hst⟩
   rw[hSS.out] at hst;rw[hAA.out];simp (decide:=true) only[og,oo,Qe,Qj,Qc] at hst ⊢;rw[if_pos (by rfl)];go_simp;refine HK.out _ _ ⟨gx,aA,aC,?_,?_⟩
   ·rw[hAA.out]
    kernel_rfl
   ·rw[hSS.out]
    simp (decide:=true) only[og,oo,Qj,Qc];exact hst
  ·rintro L w' K HK a ⟨gx,aA,aC,rfl,hst⟩
   rw[hSS.out] at hst;rw[hAA.out];simp (decide:=true) only[og,oo,Qe,Qj,Qc] at hst ⊢;have bk:=(hst.pk [3]).blk.cell 0;rw[if_pos (by rfl)];go_simp;refine HK.out _ _ ⟨gx,aA,aC,?_,?_⟩
   ·rw[hAA.out]
    kernel_rfl
   ·rw[hSS.out]
    simp (decide:=true) only[og,oo,Qj,Qc];exact hst
  iterate 2
   ·rintro L w' K HK a ⟨gx,aA,aC,rfl,hst⟩
    rw[hSS.out] at hst;rw[hAA.out];simp (decide:=true) only[ot,og,oo,Qg,Qe,Qj,Qc] at hst ⊢;rw[if_pos (by rfl)];go_simp;refine HK.out _ _ ⟨gx,aA,aC,?_,?_⟩
    ·rw[hAA.out]
     kernel_rfl
    ·rw[hSS.out]
     simp (decide:=true) only[og,oo,Qj,Qc];exact hst
  ·rintro L w' K HK a ⟨gx,aA,aC,rfl,hst⟩
   rw[hSS.out] at hst;rw[hAA.out];simp (decide:=true) only[ot,og,oo,Qg,Qe,Qj,Qc] at hst ⊢;have bk:=((hst.pk [4]).cellAt (j:=0) (u:=.int .i64 0) rfl).1;rw[if_pos (by rfl)];go_simp;refine HK.out _ _ ⟨gx,aA,aC,?_,?_⟩
   ·rw[hAA.out]
    kernel_rfl
   ·rw[hSS.out]
    simp (decide:=true) only[og,oo,Qj,Qc];exact hst
  ·rintro L w' K HK a ⟨gx,aA,aC,rfl,hst⟩
   rw[hSS.out] at hst;rw[hAA.out];simp (decide:=true) only[og,oo,Qe,Qj,Qc] at hst ⊢;rw[if_pos (by rfl)];go_simp;refine HK.out _ _ ⟨gx,aA,aC,?_,?_⟩
   ·rw[hAA.out]
    kernel_rfl
   ·rw[hSS.out]
    simp (decide:=true) only[og,oo,Qj,Qc];exact hst
  ·rintro L w' K HK a ⟨gx,aA,aC,rfl,hst⟩
   rw[hSS.out] at hst;rw[hAA.out];simp (decide:=true) only[og,oo,Qe,Qj,Qc] at hst ⊢;have bk:=(hst.pk [3]).blk.cell 0;rw[if_pos (by rfl)];go_simp;refine HK.out _ _ ⟨gx,aA,aC,?_,?_⟩
   ·rw[hAA.out]
    kernel_rfl
   ·rw[hSS.out]
    simp (decide:=true) only[og,oo,Qj,Qc];exact hst
  iterate 2
   ·rintro L w' K HK a ⟨gx,aA,aC,rfl,hst⟩
    rw[hSS.out] at hst;rw[hAA.out];simp (decide:=true) only[ot,og,oo,Qg,Qe,Qj,Qc] at hst ⊢;rw[if_pos (by rfl)];go_simp;refine HK.out _ _ ⟨gx,aA,aC,?_,?_⟩
    ·rw[hAA.out]
     kernel_rfl
    ·rw[hSS.out]
     simp (decide:=true) only[og,oo,Qj,Qc];exact hst
  ·rintro L w' K HK a ⟨gx,aA,aC,rfl,hst⟩
   rw[hSS.out] at hst;rw[hAA.out];simp (decide:=true) only[ot,og,oo,Qg,Qe,Qj,Qc] at hst ⊢;have bk:=((hst.pk [4]).cellAt (j:=0) (u:=.int .i64 0) rfl).1;rw[if_pos (by rfl)];go_simp;refine HK.out _ _ ⟨gx,aA,aC,?_,?_⟩
   ·rw[hAA.out]
    kernel_rfl
   ·rw[hSS.out]
    simp (decide:=true) only[og,oo,Qj,Qc];exact hst
  ·rintro L w' K HK a ⟨gx,aA,aC,rfl,hst⟩
   rw[hSS.out] at hst;rw[hAA.out];simp (decide:=true) only[ot,og,oo,Qg,Qe,Qj,Qc] at hst ⊢;rw[if_pos (by rfl)];go_simp;refine HK.out _ _ ⟨gx,aA,aC,?_,?_⟩
   ·rw[hAA.out]
    kernel_rfl
   ·rw[hSS.out]
    simp (decide:=true) only[og,oo,Qj,Qc];exact hst
  ·rintro L w' K HK a ⟨gx,aA,aC,rfl,hst⟩
   rw[hSS.out] at hst;rw[hAA.out];simp (decide:=true) only[ot,og,oo,Qg,Qe,Qj,Qc] at hst ⊢;obtain⟨bk,bf⟩:=(hst.pk [2]).cellAt (j:=0) (u:=.slice none 0 0) rfl;rw[if_pos (by rfl)];go_simp;refine HK.out _ _ ⟨gx,aA,aC,?_,?_⟩
   ·rw[hAA.out]
    kernel_rfl
   ·rw[hSS.out]
    simp (decide:=true) only[og,oo,Qj,Qc];exact hst
  ·rintro L w' K HK a ⟨gx,aA,aC,rfl,hst⟩
   rw[hSS.out] at hst;rw[hAA.out];simp (decide:=true) only[og,oo,Qe,Qj,Qc] at hst ⊢;rw[if_pos (by rfl)];go_simp;refine HK.out _ _ ⟨gx,aA,aC,?_,?_⟩
   ·rw[hAA.out]
    kernel_rfl
   ·rw[hSS.out]
    simp (decide:=true) only[og,Qj,Qc];exact hst
  ·rintro L w' K HK a ⟨gx,aA,aC,rfl,hst⟩
   rw[hSS.out] at hst;rw[hAA.out];simp (decide:=true) only[ot,og,oo,Qg,Qe,Qj,Qc] at hst ⊢;rw[if_pos (by rfl)];go_simp;refine HK.out _ _ ⟨w'.heap.size,aA,aC,?_,?_⟩
   ·rw[hAA.out]
    kernel_rfl
   ·rw[hSS.out]
    simp (decide:=true) only[ot,og,Qj,Qc];exact((hst.alloc 3 #[.int .i64 0]).pk [1,0,3,4,5,6,7,8])
  ·rintro L w' K HK a ⟨gx,aA,aC,rfl,hst⟩
   rw[hSS.out] at hst;rw[hAA.out];simp (decide:=true) only[ot,og,oo,Qg,Qe,Qj,Qc] at hst ⊢;have RD:=(hst.pk [1]).blkRd;have YN:=hst.quNil 1 3;obtain⟨A',c',w2,hrun,r⟩:=YN.qu_push (A:=some ⟨gx,0,none⟩) (m:=1) (c:=1) 54 underlying54 Wg rfl RD rfl (by decide) (fun u hu=>by rw[List.mem_singleton.1 hu];rfl) (by decide) (by decide) 54;clear YN RD;rw[if_pos (by rfl)];refine G8 54 _ _ rfl rfl rfl hrun ?_;refine HK.out _ _ ⟨gx,A',c',?_,?_⟩
   ·rw[hAA.out]
    kernel_rfl
   ·rw[hSS.out]
    simp (decide:=true) only[ot,og,Qj,Qc];exact(r.pk [0,2,3,4,5,6,7,8])
  ·rintro L w' K HK a ⟨gx,aA,aC,rfl,hst⟩
   rw[hSS.out] at hst;rw[hAA.out];simp (decide:=true) only[ot,og,Qg,Qe,Qj,Qc] at hst ⊢;rw[if_pos (by rfl)];go_simp;refine HK.out _ _ ⟨gx,aA,aC,?_,?_⟩
   ·rw[hAA.out]
    kernel_rfl
   ·rw[hSS.out]
    simp (decide:=true) only[ot,og,Qj,Qc];exact hst
  ·rintro L w' K HK a ⟨gx,aA,aC,rfl,hst⟩
   rw[hSS.out] at hst;rw[hAA.out];simp (decide:=true) only[ot,og,Qg,Qj,Qc] at hst ⊢;obtain⟨bk,bf⟩:=(hst.pk [2]).cellAt (j:=0) (u:=.slice none 0 0) rfl;rw[if_pos (by rfl)];go_simp;refine HK.out _ _ ⟨gx,aA,aC,?_,?_⟩
   ·rw[hAA.out]
    kernel_rfl
   ·rw[hSS.out]
    simp (decide:=true) only[ot,Qj,Qc];exact(((hst.pk [2,0,1,3,4,5,6,7]).storeO 0 (.slice aA 1 aC)).pk [1,2,0,3,4,5,6,7])
  ·rintro L a w' ⟨gx,aA,aC,ha,hst⟩
   rw[hSS.out] at hst;rw[hAA.out] at ha;simp (decide:=true) only[ot] at hst ha;subst ha;clear hAA hSS AA SS;simp only[Qj,Qc] at hst;exact⟨rfl,gx,aA,aC,rfl,(hst.pk [0,2,3,4,5,6,7])⟩
 case k=>
  rintro gx aA aC v6 y9;simp only[Qg];obtain⟨v7,hmk,y10⟩:=y9.madeOne 142 54 (.slice none 0 0) 24 underlying142 Gp rfl (by decide);obtain⟨sg,hsg⟩:∃ g,v6.heap.size=g:=⟨_,rfl⟩;rw[hsg] at hmk y10;clear hsg;have y11:=y10.alloc 142 #[.slice (some ⟨sg,0,none⟩) 1 1];have x1:=(y11.pk [6]).blk.cell 0;have Y8:=Kd (y11.pk [0,1,2,3,7,8,6]);clear y9 y10 y11;go_wp2;rw[rounds_succ];go_wp2_with fail;clear x1 hmk;obtain⟨v8,hv⟩:∃ W,v7.alloc (.cells #[.slice (some ⟨sg,0,none⟩) 1 1] 142)=W:=⟨_,rfl⟩;rw[hv] at Y8 ⊢;clear hv;generalize v7.heap.size=p11 at Y8 ⊢;have c0:=((Y8.out.pk [4]).cellAt (j:=0) (u:=.int .i64 0) rfl).1;have y12:=Y8.out.alloc 3 #[.int .i64 0];have c1:=y12.blk.cell 0;have c2:=(y12.pk [7]).blk.cell 0;have Y12:=Kd y12;clear y12 Y8;refine wp_loop_rounds 2 ?_;rw[rounds_succ];go_wp2_with fail;refine(of_ex sb _).mono ?_;rintro e v9 ⟨p1,p2,p3,rfl,z4⟩;have Y9:=Kd (Y12.out.graft z4);generalize v8.heap.size=p13 at Y9 ⊢;clear z4 Y12 c0 c1 c2;go_wp2_with fail;refine G7 (gf:=173) (lb:=#[.pointer (some ⟨p1,0,none⟩),.pointer (some ⟨p2,0,none⟩),.pointer (some ⟨p3,0,none⟩)]) Y9.out rfl (enters_of func173 (by kernel_rfl) rfl) (fun W hW=>?_) (fun va y5=>?_)
  ·have yW:=Y9.out.under hW
   exact of1_ex sb p1 p2 p3 _ W ((yW.pk [2]).blk.cell 0) ((yW.pk [1]).blk.cell 0) ((yW.pk [9]).cellAt (j:=0) rfl).1
  generalize v9.heap.size=D at y5 ⊢;have Y6:=Kd (y5.pk [0,5,8,7,6]);clear y5 Y9;go_wp2;rw[rounds_succ];go_wp2_with fail;have hS:∀ W',St w.heap.size w W' [Qa p11 142 #[.slice (some ⟨sg,0,none⟩) 1 1]]→W'.cell? ⟨p11,0,none⟩=some (.slice (some ⟨sg,0,none⟩) 1 1):=fun W' y=>y.blk.cell 0;have s0:=hS _ (Y6.out.pk [1]);have s1:=hS _ (Y6.out.drew.pk [1]);clear hS;refine wp_region_noPanic ?_;refine wp_region_held_drew (S:=(fun W'=>W'.cell? ⟨p11,0,none⟩=some (.slice (some ⟨sg,0,none⟩) 1 1))) (by kernel_rfl) ?_ (fun hH0=>?_)
  ·(with_reducible exact s1)
  refine tk 0 104 hH0 ?_;refine tk 1 105 hH0 ?_;refine tk 2 2 hH0 ?_;refine tk 3 3 hH0 ?_;refine dn ?_ _
  all_goals(refine NoPanic.normal ?_)
  have y7:=(Y6.out.drew.pk [0,2,3,4]);go_wp2;exact Cs y7 rfl (fun W=>results_tmp2 rfl _ _ _) (fun W y=>⟨_,_,_,_,_,rfl,y⟩)
theorem info_bool1:(prog.info? 4).map (fun i=>(i.zero,i.size,i.bytes))=some (some (.bool false),1,1):=by kernel_rfl
theorem listed_ex (sg:Nat) (w:World) (hs:w.cell? ⟨sg,0,none⟩=some (.slice none 0 0)):Calls prog 68 #[.slice (some ⟨sg,0,none⟩) 1 1] w fun e w'=>∃ g c,e=.returned (.slice (some ⟨g,0,none⟩) 1 c)∧St w.heap.size w w' [Qh 3 1 (.slice (some ⟨g,0,none⟩) 1 c) 1 [.int .i64 0]]:=by
 obtain⟨W1,hmk,y1⟩:=(St.nil w).madeOne 211 4 (.bool false) 1 underlying211 info_bool1 rfl (by decide);have hlo:sg<w.heap.size:=World.block_lt_of_cell? w _ hs;have y2:=y1.alloc 211 #[.slice (some ⟨w.heap.size,0,none⟩) 1 1];obtain⟨W2,hW2⟩:∃ W,W1.alloc (.cells #[.slice (some ⟨w.heap.size,0,none⟩) 1 1] 211)=W:=⟨_,rfl⟩;rw[hW2] at y2;have c0:=y2.blk.cell 0;obtain⟨c1,f1⟩:=(y2.pk [1]).cellAt (j:=0) (u:=.bool false) rfl;have c2:=Wi y2.below hs;have Y2:=Kd y2;clear y1 y2;go_enter func68,ntmps68;go_wp2_with fail;clear hW2 hmk;obtain⟨gb,hgb⟩:∃ g,w.heap.size=g:=⟨_,rfl⟩;rw[hgb] at c0 c1 f1 ⊢;have Y3:Hid (St gb w W2 [Qa W1.heap.size 211 #[.slice (some ⟨gb,0,none⟩) 1 1],Qh 4 1 (.slice (some ⟨gb,0,none⟩) 1 1) 1 [.bool false]]):=Kd (hgb▸Y2.out);have HG:=Kd hgb;clear Y2 hgb hlo;generalize W1.heap.size=pb at Y3 c0 ⊢;have kc:=Of 116 #[.pointer (some ⟨pb,0,none⟩)] (enters_of func116 (by kernel_rfl) rfl) none 0 0 (fun _=>undef) (fun _=>false) W2 (Nat.zero_le _) (fun j hj=>absurd hj (Nat.not_lt_zero _)) (fun j W hj=>absurd hj (Nat.not_lt_zero _));refine wp_loop_rounds 2 ?_;rw[rounds_succ];go_wp2_with fail;refine wp_loop_once ?_;go_wp2_with fail;refine kc.mono ?_;rintro e v3 ⟨b,rfl,hb,hp⟩
 obtain rfl:b=false:=by
  cases b with
  |false=>rfl
  |true=>obtain⟨i,hi,-⟩:=hp.1 rfl;exact absurd hi (Nat.not_lt_zero _)
 have y4:=Y3.out.under hb;clear kc hp hb c0 c1 f1 c2 Y3;have c0:=y4.blk.cell 0;obtain⟨c1,f1⟩:=y4.tail.cellAt (j:=0) (u:=.bool false) rfl;have y5:=(y4.tail.storeO 0 (.bool true)).ownNil 1 3;have Y5:=Kd y5;have b1:(0+1)*8≤140737488355328:=by decide
 have b2:0+1≤maxLen:=by decide
 clear y4 y5;go_wp2_with (at_builtin;go_must (refine Vr 54 (te:=3) (u:=.int .i64 0) Y5.out underlying54 Wg rfl rfl _ _ rfl rfl (by rw[show (v3.setCell ⟨gb,0,none⟩ (.bool true)).heap.size=v3.heap.size by simp[World.setCell]];rfl) rfl b2 b1 ?_);intro vg v5 h7);clear c0 c1 f1 Y5 b1 b2;obtain⟨g,c,rfl⟩:=h7.own_one;have Y7:=Kd h7;clear h7;go_wp2;rw[rounds_succ];go_wp2;go_ret;exact⟨g,c,rfl,by rw[HG.out];exact(Y7.out.pk [0])⟩
theorem St.appRun {lo:Nat} {w0 w:World} {Rs:List Q3} {e:TypeId} {size n:Nat} {v:Value} {xs:List Value} (t ty:TypeId) {z:Value} {bytes:Nat}
 (h:St lo w0 w (Qh e size v n xs::Rs)) (ht:prog.underlying t=some (.slice e)) (hi:(prog.info? e).map (fun i=>(i.zero,i.size,i.bytes))=some (some z,size,bytes)) (hzs:z.cells.size=size) (hsz:0<size)
 (ad:Addr) (m c:Nat) (news:List Value) (hl:news.length=m*size) (hnews:∀ j u,news[j]?=some u→w.cell? (ad.add j)=some u) (h1:∀ u∈news,u.oneCell'=true)
 (h63:n+m≤maxLen) (hbytes:(n+m)*bytes≤140737488355328):
 ∃ v' w',(Builtin.append_ #[t,t] ty #[v,.slice (some ad) m c]).run prog w=.ok v' w'∧St lo w0 w' (Qh e size v' (n+m) (xs++news)::Rs):=by
 obtain⟨i,hi',i1,i2,i3⟩:=info_parts hi;obtain⟨v',w',hr,r1,r2,-,r4⟩:=run_append_own_at (P:=prog) w 0 t ty e i z size bytes ht hi' i1 i2 i3 hzs hsz v n xs h.own ad m c news hl hnews h1 h63 hbytes (Nat.zero_le _);exact⟨v',w',hr,h.shift r1 r2 r4⟩
theorem levels_ex (gA:Option Addr) (gC:Nat) (w:World):Calls prog 38 #[.agg #[.slice gA 1 gC,.slice none 0 0]] w fun e w'=>∃ lg lc bg bc,e=.returned (.slice (some ⟨lg,0,none⟩) 1 lc)∧St w.heap.size w w' [Qh 3 1 (.slice (some ⟨bg,0,none⟩) 1 bc) 1 [.int .i64 0],Qh 54 1 (.slice (some ⟨lg,0,none⟩) 1 lc) 1 [.slice (some ⟨bg,0,none⟩) 1 bc]]:=by
 have y0:=(St.nil w).alloc 137 #[.slice gA 1 gC,.slice none 0 0];have x0:=y0.blk.cell 0;have x1:=y0.blk.cell 1;have Y0:=Kd y0;obtain⟨W0,hW0⟩:∃ W,w.alloc (.cells #[.slice gA 1 gC,.slice none 0 0] 137)=W:=⟨_,rfl⟩;rw[hW0] at Y0 x0 x1;clear y0;go_enter func38,ntmps38;go_wp2_with fail;clear hW0 x0 x1;refine(gvalid_ex gA gC _).mono ?_;rintro e v1 ⟨rfl,hb⟩;have y1:=Y0.out.under hb;have x0:=y1.blk.cell 0;have x1:=y1.blk.cell 1;have Y1:=Kd y1;clear y1 hb Y0;go_wp2_with fail;clear x0 x1;refine(Ih gA gC v1).mono ?_;rintro e v2 ⟨gg,gG,sg,aA,aC,rfl,z2⟩;have y2:=Y1.out.graft z2;obtain⟨ab,ao,rfl,-,-,-⟩:=(y2.pk [1]).qu_cell (by decide);obtain⟨v3,hmk,y3⟩:=y2.madeOne 54 3 (.int .i64 0) 8 underlying54 Wg rfl (by decide);obtain⟨gl,hgl⟩:∃ g,v2.heap.size=g:=⟨_,rfl⟩;rw[hgl] at hmk y3;clear hgl;clear z2 y2 Y1;have s0:=((y3.pk [3]).cellAt (j:=0) (u:=.slice none 0 0) rfl).1;have Y3:=Kd (y3.pk [0,1,2,3]);clear y3;go_wp2_with fail;refine(listed_ex sg v3 s0).mono ?_;rintro e v4 ⟨ob,oc,rfl,z4⟩;have y4:=Y3.out.graft z4;clear hmk s0 Y3 z4;have c0:=(y4.cellAt (j:=0) (u:=.int .i64 0) rfl).1;have c1:=((y4.pk [1]).cellAt (j:=0) (u:=.int .i64 0) rfl).1;have c2:=((y4.pk [4]).cellAt (j:=0) (u:=.slice none 0 0) rfl).1;have H4:=Kd ((y4.pk [1,2,3]).ownNil 1 54);clear y4;have b1:(0+1)*24≤140737488355328:=by decide
 have b2:0+1≤maxLen:=by decide
 go_wp2;refine wp_loop_rounds 2 ?_;rw[rounds_succ];go_wp2_with fail;refine wp_loop_once ?_;go_wp2_with fail;refine wp_loop_rounds 2 ?_;rw[rounds_succ];go_wp2_with (at_builtin;go_must (refine Vr 140 (te:=54) (u:=.slice none 0 0) H4.out underlying140 Gp rfl rfl _ _ rfl rfl rfl rfl b2 b1 ?_);intro vl v5 h7;have c1:=((h7.pk [1]).cellAt (j:=0) (u:=.int .i64 0) rfl).1);obtain⟨lg,lc,rfl⟩:=h7.own_one;have H7:=Kd h7;clear h7 H4 c0 c2 b1 b2;rw[rounds_succ];go_wp2_with fail;clear c1;have y8:St w.heap.size w v5 [Qh 54 1 (.slice (some ⟨lg,0,none⟩) 1 lc) 1 [.slice none 0 0],Qh 3 1 (.slice (some ⟨gl,0,none⟩) 1 1) 1 [.int .i64 0],Qh 54 1 (.slice (some ⟨gg,0,none⟩) 1 gG) 1 [.slice (some ⟨ab,ao,none⟩) 1 aC],Ja 1 (.slice (some ⟨ab,ao,none⟩) 1 aC) 1 [.int .i64 0]]:=H7.out;clear H7;generalize v4.heap.size=s4;apply Fu (fun (bg bc:Nat) w'=>St w.heap.size w w' [Qh 3 1 (.slice (some ⟨bg,0,none⟩) 1 bc) 1 [.int .i64 0],Qh 54 1 (.slice (some ⟨lg,0,none⟩) 1 lc) 1 [.slice (some ⟨bg,0,none⟩) 1 bc],Qh 3 1 (.slice (some ⟨gl,0,none⟩) 1 1) 1 [.int .i64 0],Qh 54 1 (.slice (some ⟨gg,0,none⟩) 1 gG) 1 [.slice (some ⟨ab,ao,none⟩) 1 aC],Ja 1 (.slice (some ⟨ab,ao,none⟩) 1 aC) 1 [.int .i64 0]])
 case h=>
  obtain⟨AA,hAA⟩:∃ AA:(Nat→Bool)→Nat→Nat→Act,Hid (∀ L bg bc,AA L bg bc={ tmps:=List.toArray ((.agg #[.slice gA 1 gC,.slice none 0 0])::(.pointer (some ⟨w.heap.size,0,none⟩))::(.slice none 0 0)::(.slice (some ⟨gg,0,none⟩) 1 gG)::(.slice (some ⟨sg,0,none⟩) 1 1)::(.slice (some ⟨gl,0,none⟩) 1 1)::(.slice (some ⟨lg,0,none⟩) 1 lc)::(undef)::(.int .i64 0)::(undef)::(undef)::(undef)::(.agg #[.slice gA 1 gC,.slice none 0 0])::(.bool true)::(.bool false)::(.tuple #[.slice (some ⟨gg,0,none⟩) 1 gG,.slice (some ⟨sg,0,none⟩) 1 1])::(.agg #[.slice gA 1 gC,.slice none 0 0])::(.tuple #[.slice (some ⟨gg,0,none⟩) 1 gG,.slice (some ⟨sg,0,none⟩) 1 1])::(.slice (some ⟨gg,0,none⟩) 1 gG)::(.slice (some ⟨sg,0,none⟩) 1 1)::(.slice (some ⟨sg,0,none⟩) 1 1)::(.int .i64 1)::(.slice (some ⟨gl,0,none⟩) 1 1)::(.slice (some ⟨sg,0,none⟩) 1 1)::(.slice (some ⟨ob,0,none⟩) 1 oc)::(.int .i64 1)::(.int .i64 0)::(.bool true)::(.pointer (some ⟨ob,0,none⟩))::(.int .i64 0)::(.slice (some ⟨sg,0,none⟩) 1 1)::(.int .i64 0)::(.pointer (some ⟨sg,0,none⟩))::(.slice none 0 0)::(.int .i64 0)::(.int .i64 0)::(.bool false)::(undef)::(undef)::(undef)::(undef)::(undef)::(undef)::(undef)::(undef)::(undef)::(undef)::(undef)::(undef)::(undef)::(undef)::(undef)::(undef)::(.slice (some ⟨lg,0,none⟩) 1 lc)::(.int .i64 1)::(.slice (some ⟨gl,0,none⟩) 1 1)::(.int .i64 0)::(.pointer (some ⟨gl,0,none⟩))::(.int .i64 0)::(.bool false)::(.slice none 0 0)::(.slice (some ⟨s4,0,none⟩) 1 1)::(.slice (some ⟨lg,0,none⟩) 1 lc)::(sl (L 0) (.slice (some ⟨lg,0,none⟩) 1 lc))::(sl (L 1) (.slice (some ⟨gl,0,none⟩) 1 1))::(sl (L 2) (.int .i64 0))::(sl (L 3) (.pointer (some ⟨gl,0,none⟩)))::(sl (L 4) (.int .i64 0))::(sl (L 5) (.slice (some ⟨lg,0,none⟩) 1 lc))::(sl (L 6) (.slice (some ⟨gl,0,none⟩) 1 1))::(sl (L 7) (.int .i64 0))::(sl (L 8) (.pointer (some ⟨gl,0,none⟩)))::(sl (L 9) (.int .i64 0))::(sl (L 10) (.pointer (some ⟨lg,0,none⟩)))::(sl (L 11) (.slice none 0 0))::(sl (L 12) (.slice (some ⟨gg,0,none⟩) 1 gG))::(sl (L 13) (.int .i64 0))::(sl (L 14) (.pointer (some ⟨gg,0,none⟩)))::(sl (L 15) (.slice (some ⟨ab,ao,none⟩) 1 aC))::(sl (L 16) (.slice (some ⟨bg,0,none⟩) 1 bc))::(sl (L 17) (.pointer (some ⟨lg,0,none⟩)))::(undef)::(undef)::(undef)::(undef)::(undef)::(undef)::(undef)::(undef)::(undef)::(undef)::(undef)::(undef)::(undef)::[]),defers:=[] }):=⟨_,Kd fun _ _ _=>rfl⟩;obtain⟨SS,hSS⟩:∃ SS:(Nat→Bool)→Nat→Nat→World→Prop,Hid (∀ L bg bc w',SS L bg bc w'=(St w.heap.size w w' [Qj (L 16) (Qh 3 1 (.slice (some ⟨bg,0,none⟩) 1 bc) 1 [.int .i64 0]),Qh 54 1 (.slice (some ⟨lg,0,none⟩) 1 lc) 1 [Qc (L 18) (.slice (some ⟨bg,0,none⟩) 1 bc) (.slice none 0 0)],Qh 3 1 (.slice (some ⟨gl,0,none⟩) 1 1) 1 [.int .i64 0],Qh 54 1 (.slice (some ⟨gg,0,none⟩) 1 gG) 1 [.slice (some ⟨ab,ao,none⟩) 1 aC],Ja 1 (.slice (some ⟨ab,ao,none⟩) 1 aC) 1 [.int .i64 0]])):=⟨_,Kd fun _ _ _ _=>rfl⟩;refine Vt (by kernel_rfl) [(0,393217,1),(0,393242,2),(0,393244,4),(6,393240,14),(14,393232,30),(0,461856,32),(0,462656,64),(0,462720,128),(192,462592,448),(448,462336,960),(992,461824,2016),(2016,460800,4064),(0,512000,4096),(0,516096,8192),(12288,507904,28672),(28672,491520,61440),(65504,458752,131040),(131071,393216,262143),(262143,262144,524287)] 524287 (fun L a w'=>∃(bg:Nat) (bc:Nat),a=AA L bg bc∧SS L bg bc w') (by kernel_rfl) (by kernel_rfl) (by kernel_rfl) ?_ ⟨?_,?_,?_,?_,?_,?_,?_,?_,?_,?_,?_,?_,?_,?_,?_,?_,?_,?_,?_,trivial⟩ ?_
  ·simp only[hAA.out,hSS.out]
   exact⟨0,0,rfl,y8.drew.unit⟩
  iterate 4
   ·rintro L w' K HK a ⟨bg,bc,rfl,hst⟩
    rw[hSS.out] at hst;rw[hAA.out];simp (decide:=true) only[ot,og,oo,Qg,Qe,Qj,Qc] at hst ⊢;rw[if_pos (by rfl)];go_simp;refine HK.out _ _ ⟨bg,bc,?_,?_⟩
    ·rw[hAA.out]
     kernel_rfl
    ·rw[hSS.out]
     simp (decide:=true) only[og,oo,Qj,Qc];exact hst
  ·rintro L w' K HK a ⟨bg,bc,rfl,hst⟩
   rw[hSS.out] at hst;rw[hAA.out];simp (decide:=true) only[ot,og,oo,Qg,Qe,Qj,Qc] at hst ⊢;obtain⟨bk,bf⟩:=(hst.pk [2]).cellAt (j:=0) (u:=.int .i64 0) rfl;rw[if_pos (by rfl)];go_simp;refine HK.out _ _ ⟨bg,bc,?_,?_⟩
   ·rw[hAA.out]
    kernel_rfl
   ·rw[hSS.out]
    simp (decide:=true) only[og,oo,Qj,Qc];exact hst
  iterate 4
   ·rintro L w' K HK a ⟨bg,bc,rfl,hst⟩
    rw[hSS.out] at hst;rw[hAA.out];simp (decide:=true) only[ot,og,oo,Qg,Qe,Qj,Qc] at hst ⊢;rw[if_pos (by rfl)];go_simp;refine HK.out _ _ ⟨bg,bc,?_,?_⟩
    ·rw[hAA.out]
     kernel_rfl
    ·rw[hSS.out]
     simp (decide:=true) only[og,Qj,Qc];exact hst
  ·rintro L w' K HK a ⟨bg,bc,rfl,hst⟩
   rw[hSS.out] at hst;rw[hAA.out];simp (decide:=true) only[ot,og,oo,Qg,Qe,Qj,Qc] at hst ⊢;obtain⟨bk,bf⟩:=(hst.pk [2]).cellAt (j:=0) (u:=.int .i64 0) rfl;rw[if_pos (by rfl)];go_simp;refine HK.out _ _ ⟨bg,bc,?_,?_⟩
   ·rw[hAA.out]
    kernel_rfl
   ·rw[hSS.out]
    simp (decide:=true) only[og,Qj,Qc];exact hst
  ·rintro L w' K HK a ⟨bg,bc,rfl,hst⟩
   rw[hSS.out] at hst;rw[hAA.out];simp (decide:=true) only[ot,og,oo,Qg,Qe,Qj,Qc] at hst ⊢;rw[if_pos (by rfl)];go_simp;refine HK.out _ _ ⟨bg,bc,?_,?_⟩
   ·rw[hAA.out]
    kernel_rfl
   ·rw[hSS.out]
    simp (decide:=true) only[og,Qj,Qc];exact hst
  ·rintro L w' K HK a ⟨bg,bc,rfl,hst⟩
   rw[hSS.out] at hst;rw[hAA.out];simp (decide:=true) only[ot,og,oo,Qg,Qe,Qj,Qc] at hst ⊢;obtain⟨bk,bf⟩:=(hst.pk [1]).cellAt (j:=0) (u:=.slice none 0 0) rfl;rw[if_pos (by rfl)];go_simp;refine HK.out _ _ ⟨bg,bc,?_,?_⟩
   ·rw[hAA.out]
    kernel_rfl
   ·rw[hSS.out]
    simp (decide:=true) only[og,Qj,Qc];exact hst
  iterate 3
   ·rintro L w' K HK a ⟨bg,bc,rfl,hst⟩
    rw[hSS.out] at hst;rw[hAA.out];simp (decide:=true) only[ot,og,oo,Qg,Qe,Qj,Qc] at hst ⊢;rw[if_pos (by rfl)];go_simp;refine HK.out _ _ ⟨bg,bc,?_,?_⟩
    ·rw[hAA.out]
     kernel_rfl
    ·rw[hSS.out]
     simp (decide:=true) only[og,Qj,Qc];exact hst
  ·rintro L w' K HK a ⟨bg,bc,rfl,hst⟩
   rw[hSS.out] at hst;rw[hAA.out];simp (decide:=true) only[ot,og,oo,Qg,Qe,Qj,Qc] at hst ⊢;obtain⟨bk,bf⟩:=(hst.pk [3]).cellAt (j:=0) (u:=.slice (some ⟨ab,ao,none⟩) 1 aC) rfl;rw[if_pos (by rfl)];go_simp;refine HK.out _ _ ⟨bg,bc,?_,?_⟩
   ·rw[hAA.out]
    kernel_rfl
   ·rw[hSS.out]
    simp (decide:=true) only[og,Qj,Qc];exact hst
  ·rintro L w' K HK a ⟨bg,bc,rfl,hst⟩
   rw[hSS.out] at hst;rw[hAA.out];simp (decide:=true) only[ot,og,oo,Qg,Qe,Qj,Qc] at hst ⊢;obtain⟨b',o',e',-,-,nc⟩:=(hst.pk [4]).qu_cell (by decide);obtain⟨rfl,rfl⟩:ab=b'∧ao=o':=by simpa using Option.some.inj e'
   obtain⟨v',w2,hrun,r⟩:=(hst.ownNil 1 3).appRun 54 54 underlying54 Wg rfl (by decide) ⟨ab,ao,none⟩ 1 aC [.int .i64 0] rfl (fun j u hj=>by rw[Addr.add_lit];exact nc j u hj) (fun u hu=>by rw[List.mem_singleton.1 hu];rfl) (by decide) (by decide);clear nc e';obtain⟨bg',bc',rfl⟩:=r.own_one;rw[if_pos (by rfl)];refine G8 54 _ _ rfl rfl rfl hrun ?_;refine HK.out _ _ ⟨bg',bc',?_,?_⟩
   ·rw[hAA.out]
    kernel_rfl
   ·rw[hSS.out]
    simp (decide:=true) only[ot,og,Qj,Qc];exact(r.pk [0,2,3,4,5])
  ·rintro L w' K HK a ⟨bg,bc,rfl,hst⟩
   rw[hSS.out] at hst;rw[hAA.out];simp (decide:=true) only[ot,og,Qg,Qe,Qj,Qc] at hst ⊢;rw[if_pos (by rfl)];go_simp;refine HK.out _ _ ⟨bg,bc,?_,?_⟩
   ·rw[hAA.out]
    kernel_rfl
   ·rw[hSS.out]
    simp (decide:=true) only[ot,og,Qj,Qc];exact hst
  ·rintro L w' K HK a ⟨bg,bc,rfl,hst⟩
   rw[hSS.out] at hst;rw[hAA.out];simp (decide:=true) only[ot,og,Qg,Qj,Qc] at hst ⊢;obtain⟨bk,bf⟩:=(hst.pk [1]).cellAt (j:=0) (u:=.slice none 0 0) rfl;rw[if_pos (by rfl)];go_simp;refine HK.out _ _ ⟨bg,bc,?_,?_⟩
   ·rw[hAA.out]
    kernel_rfl
   ·rw[hSS.out]
    simp (decide:=true) only[ot,Qj,Qc];exact(((hst.pk [1,0,2,3,4]).storeO 0 (.slice (some ⟨bg,0,none⟩) 1 bc)).pk [1,0,2,3,4])
  ·rintro L a w' ⟨bg,bc,ha,hst⟩
   rw[hSS.out] at hst;rw[hAA.out] at ha;simp (decide:=true) only[ot] at hst ha;subst ha;clear hAA hSS AA SS;simp only[Qj,Qc] at hst;exact⟨rfl,bg,bc,rfl,hst⟩
 case k =>rintro bg bc v6 y9;simp only[Qg];have d0:=((y9.pk [1]).cellAt (j:=0) (u:=.slice (some ⟨bg,0,none⟩) 1 bc) rfl).1;have ks:=St.sortI (l:=[0]) y9 rfl (by decide);rw[List.mergeSort_singleton] at ks;clear y8 y9;go_wp2;rw[rounds_succ];go_wp2_with fail;refine wp_loop_rounds 2 ?_;rw[rounds_succ];go_wp2_with fail;refine ks.mono ?_;rintro e v7 ⟨rfl,z7⟩;have Y7:=Kd (z7.pk [0,1]);clear ks z7 d0;go_wp2;rw[rounds_succ];go_wp2;go_ret;exact⟨lg,lc,bg,bc,rfl,Y7.out⟩
theorem info_sstrX:(prog.info? 134).map (fun i=>(i.zero,i.size,i.bytes))=some (some (.slice none 0 0),1,24):=by kernel_rfl
theorem named_ex (A qA iA sA tA:Option Addr) (c qC iN iC sC tC:Nat) (F:Nat→Prop) (w:World) (h:Qx w F (.slice A 4 c) (Jl (.slice qA 1 qC))) (hs:Z9 w F sA ((Ke 1).flatMap Wm)) (ht:Z9 w F tA ((Ke 2).flatMap Wm)) (hg:Ji w):
 Calls prog 37 #[.agg #[.slice A 4 c,.slice iA iN iC],.slice sA 2 sC,.slice tA 2 tC,.func (.func 38) #[] #[]] w fun e w'=>∃ wA wC,e=.returned (.tuple #[.slice wA 1 wC,.int .i64 0])∧Below w.heap.size w w':=by
 have y0:=(St.nil w).alloc 25 #[.slice A 4 c,.slice iA iN iC];obtain⟨W0,hW0⟩:∃ W,w.alloc (.cells #[.slice A 4 c,.slice iA iN iC] 25)=W:=⟨_,rfl⟩;rw[hW0] at y0;have k1:=wgraph_ex A qA iA sA tA c qC iN iC sC tC F W0 (h.below y0.below) (hs.below y0.below) (ht.below y0.below) (hg.below y0.below);have x0:=y0.blk.cell 0;have x1:=y0.blk.cell 1;have Y0:=Kd y0;clear y0 h hs ht hg;go_enter func37,ntmps37;go_wp2_with fail;clear hW0 x0 x1;refine k1.mono ?_;rintro e v1 ⟨gA,gC,rfl,z1⟩;obtain⟨gn,gm,e1⟩:=z1.own_one;obtain⟨rfl,-,rfl⟩:=Value.slice.inj e1;have y1:=(Y0.out.graft z1).alloc 137 #[.slice (some ⟨gn,0,none⟩) 1 gC,.slice none 0 0];have x0:=y1.blk.cell 0;have x1:=y1.blk.cell 1;have Y1:=Kd y1;clear k1 z1 y1 Y0 e1;go_wp2_with fail;refine(levels_ex _ gC _).mono ?_;rintro e v2 ⟨lg,lc,bg,bc,rfl,z2⟩;have y2:=Y1.out.graft z2;generalize v1.heap.size=pg at y2 ⊢;clear x0 x1 z2 Y1;have c0:=(y2.cellAt (j:=0) (u:=.int .i64 0) rfl).1;have c1:=((y2.pk [1]).cellAt (j:=0) (u:=.slice (some ⟨bg,0,none⟩) 1 bc) rfl).1;have c2:=(y2.pk [2]).blk.cell 0;have c3:=((y2.pk [3]).cellAt (j:=0) (u:=.string ⟨Qo.toArray⟩) rfl).1;have Y2:=Kd (y2.ownNil 1 9);have b1:(0+1)*16≤140737488355328:=by decide
 have b2:0+1≤maxLen:=by decide
 have b3:(0+1)*24≤140737488355328:=by decide
 clear y2;generalize Qo.toArray=xB at *;go_wp2;refine wp_loop_rounds 2 ?_;rw[rounds_succ];go_wp2_with fail;refine wp_loop_rounds 2 ?_;rw[rounds_succ];go_wp2_with (at_builtin;go_must (refine Vr 134 (te:=9) (u:=.string ⟨xB⟩) Y2.out underlying134 Xv rfl rfl _ _ rfl rfl rfl rfl b2 b1 ?_);intro v8 w8 h8);have H8:=Kd (h8.ownNil 1 134);obtain⟨sg,sc,rfl⟩:=h8.own_one;clear c0 c1 c2 c3 h8 Y2;rw[rounds_succ];go_wp2_with (at_builtin;go_must (refine Vr 57 (te:=134) (u:=.slice (some ⟨sg,0,none⟩) 1 sc) H8.out underlying57 info_sstrX rfl rfl _ _ rfl rfl rfl rfl b2 b3 ?_);intro v9 w9 h9);obtain⟨wg,wc,rfl⟩:=h9.own_one;have H9:=Kd h9.below;clear h9 H8 b1 b2 b3;go_wp2;rw[rounds_succ];go_wp2;go_ret2;exact⟨_,_,rfl,H9.out⟩
theorem waves_ex (A qA iA sA tA:Option Addr) (c qC iN iC sC tC:Nat) (F:Nat→Prop) (w:World) (h:Qx w F (.slice A 4 c) (Jl (.slice qA 1 qC))) (hs:Z9 w F sA ((Ke 1).flatMap Wm)) (ht:Z9 w F tA ((Ke 2).flatMap Wm)) (hg:Ji w):
 Calls prog 15 #[.agg #[.slice A 4 c,.slice iA iN iC],.slice sA 2 sC,.slice tA 2 tC] w fun e w'=>∃ wA wC,e=.returned (.tuple #[.slice wA 1 wC,.int .i64 0])∧Below w.heap.size w w':=by
 have y0:=(St.nil w).alloc 25 #[.slice A 4 c,.slice iA iN iC];obtain⟨W0,hW0⟩:∃ W,w.alloc (.cells #[.slice A 4 c,.slice iA iN iC] 25)=W:=⟨_,rfl⟩;rw[hW0] at y0;have k1:=named_ex A qA iA sA tA c qC iN iC sC tC F W0 (h.below y0.below) (hs.below y0.below) (ht.below y0.below) (hg.below y0.below);have x0:=y0.blk.cell 0;have x1:=y0.blk.cell 1;have Y0:=Kd y0;clear y0 h hs ht hg;go_enter func15,ntmps15;go_wp2_with fail;clear hW0 x0 x1;refine k1.mono ?_;rintro e v1 ⟨wA,wC,rfl,z1⟩;have B:=Kd (Y0.out.under z1).below;clear k1 z1 Y0;go_wp2;go_ret2;exact⟨_,_,rfl,B.out⟩
theorem size_reqm:(prog.info? 43).map (·.size)=some 2:=by kernel_rfl
theorem Lz:(prog.info? 36).map (·.size)=some 3:=by kernel_rfl
theorem Kn (k:Int) (w:World):Calls prog 11 #[.int .i64 k] w fun e w'=>e=.returned (.agg #[.int .i64 1,.int .i64 k,.int .i64 0])∧Below w.heap.size w w':=by
 have y1:=(St.nil w).alloc 36 #[.int .i64 0,.int .i64 0,.int .i64 0];have y2:=((y1.set_ 0 (.int .i64 1)).set_ 1 (.int .i64 k)).set_ 2 (.int .i64 0);simp only[List.setIfInBounds_toArray,List.set_cons_zero,List.set_cons_succ] at y2;have y3:=(St.nil w).alloc 36 #[.int .i64 1,.int .i64 k,.int .i64 0];have Y2:=Kd y2;have Y3:=Kd y3;clear y1 y2 y3;go_enter func11,ntmps11;go_wp2
 first
  |(refine bodyPost_ret (Jc rfl _ _ _ _ _ _ _ rfl Y3.out.blk underlying36 rfl Lz) rfl ?_;exact⟨rfl,Y3.out.below⟩)
  |(refine bodyPost_ret (Jc rfl _ _ _ _ _ _ _ rfl Y2.out.blk underlying36 rfl Lz) rfl ?_;exact⟨rfl,Y2.out.below⟩)
theorem Bs (x:Tm.Qk) (k m:Int) (hk:(IntKind.i64).wrap (1000*k)=m) (w:World):Calls prog 12 #[.string ⟨x.toArray⟩,.int .i64 k] w fun e w'=>∃ g,e=.returned (.agg #[.string ⟨x.toArray⟩,.slice (some ⟨g,0,none⟩) 1 1])∧St w.heap.size w w' [Qa g 79 #[.int .i64 m,.int .i64 1000000]]:=by have y2:=((St.nil w).alloc 43 #[.string ⟨x.toArray⟩,.slice (some ⟨w.heap.size+1,0,none⟩) 1 1]).alloc 79 #[.int .i64 m,.int .i64 1000000];simp only[World.size_alloc] at y2;have Y2:=Kd y2;clear y2;go_enter func12,ntmps12;go_wp2;refine bodyPost_ret (Jc rfl _ _ _ _ _ _ _ rfl Y2.out.tail.blk underlying43 rfl size_reqm) rfl ?_;exact⟨_,rfl,(Y2.out.pk [0])⟩
set_option maxRecDepth 20000
theorem ex_sol1:(Tm.Za exX Bk 17 Tm.Zl []).1=some ([⟨Qq,0,[⟨Qo,[(1000,1000000)]⟩],false⟩,⟨Qo,1000,[],false⟩],[]):=by kernel_rfl
theorem ex_infs:(Tm.Za exX Bk 17 Tm.Zl []).2.2.infs=exI:=by kernel_rfl
theorem ex_none:(Tm.Za exX Hx 17 Tm.Zl []).1=none:=by kernel_rfl
theorem ex_core0:J6 exX Hx 0=[0,1]:=by kernel_rfl
theorem ex_core1:J6 exX Hx 1=[0,1]:=by kernel_rfl
theorem ex_core2:J6 exX Hx 2=[1]:=by kernel_rfl
theorem Tq (v:Value):X5 (Jl v) Bk=true:=by kernel_rfl
theorem ex_valid (v:Value):Wr (Jl v) Bk=true:=by kernel_rfl
theorem ex_valid2 (v:Value):Wr (Jl v) Hx=true:=by kernel_rfl
theorem ex_grows:Tm.Jm exX=true:=by kernel_rfl
theorem ex_val0 (v:Value):Wr (Jl v) ((Fd Hx [0,1] 0).map (Sl Hx))=true:=by kernel_rfl
theorem ex_val1 (v:Value):Wr (Jl v) ((Fd Hx [0,1] 1).map (Sl Hx))=true:=by kernel_rfl
theorem ex_ent (v:Value):(Ke 1).map (N5 (Jl v))=exL:=by kernel_rfl
theorem exR2_small:∀ q∈Hx,Zu q:=fun q hq=>by
 rcases List.mem_cons.1 hq with rfl|hq
 ·exact⟨by decide,by decide⟩
 ·obtain rfl:=List.mem_singleton.1 hq
  exact⟨by decide,by decide⟩
def exD (v:Value):List Qi:=[⟨Qq,1,0,0,[⟨Qo,[(1000,1000000)]⟩],v,[],[],[],false⟩,⟨Qo,1,1,0,[],.slice none 0 0,[],[],[],false⟩]
theorem exD_mem (v:Value):∀ r∈exD v,r∈Jl v:=fun r hr=>by
 unfold exD at hr;unfold Jl;simp only[List.mem_cons,List.not_mem_nil,or_false] at hr ⊢;rcases hr with rfl|rfl
 ·exact .inl rfl
 ·exact .inr (.inr (.inl rfl))
theorem exT_sorted:(Ke 1).Pairwise fun x y=>Tm.Jr y.1 x.1=false:=by unfold Ke;refine .cons (fun y hy=>?_) (.cons (fun y hy=>by cases hy) .nil);obtain rfl:=List.mem_singleton.1 hy;decide
theorem ex_pair {L:List Zy} (hp:L.Perm (Ke 1)) (hs:L.Pairwise fun x y=>Tm.Jr y.1 x.1=false):L=Ke 1:=by
 match L,hp.length_eq,hp,hs with
 | [x,y],_,hp,hs=>
   have hx:x∈Ke 1:=hp.subset (by simp);have hy:y∈Ke 1:=hp.subset (by simp);have ha:(Qq,1,0,0)∈[x,y]:=hp.symm.subset (by simp[Ke]);have hb:(Qo,1,1,0)∈[x,y]:=hp.symm.subset (by simp[Ke]);have h1:=(List.pairwise_cons.1 hs).1 y (by simp);simp only[Ke,List.mem_cons,List.not_mem_nil,or_false] at hx hy ha hb;rcases hx with rfl|rfl<;>rcases hy with rfl|rfl
   ·rcases hb with hb|hb<;>exact absurd hb (by decide)
   ·rfl
   ·exact absurd h1 (by decide)
   ·rcases ha with ha|ha<;>exact absurd ha (by decide)
theorem If (v:Value):Tm.Za ((Jl v).map Qf) Bk 17 Tm.Zl []=(some ([⟨Qq,0,[⟨Qo,[(1000,1000000)]⟩],false⟩,⟨Qo,1000,[],false⟩],[]),(Tm.Za exX Bk 17 Tm.Zl []).2.1,(Tm.Za exX Bk 17 Tm.Zl []).2.2):=by rw[Gu];exact Prod.ext ex_sol1 rfl
theorem ex_res2 (v:Value):Tm.Za ((Jl v).map Qf) Hx 17 Tm.Zl []=(none,(Tm.Za exX Hx 17 Tm.Zl []).2.1,(Tm.Za exX Hx 17 Tm.Zl []).2.2):=by rw[Gu];exact Prod.ext ex_none rfl
theorem P3 (v:Value):Tm.Jm ((Jl v).map Qf)=true:=by rw[Gu];exact ex_grows
theorem exV_zero (v:Value):∀ r∈Jl v,V7 r=0:=Rp (by kernel_rfl) fun m hm=>by rcases hm with rfl|rfl|rfl<;>kernel_rfl
section
variable {lo:Nat} {w0 w:World} {Rs:List Q3}
theorem St.reqsOne {gQ gS:Nat} {x:Tm.Qk} {m:Int} (h:St lo w0 w (Qa gQ 43 #[.string ⟨x.toArray⟩,.slice (some ⟨gS,0,none⟩) 1 1]::Qa gS 79 #[.int .i64 m,.int .i64 1000000]::Rs)):
 Qt w (fun k=>lo≤k) (.slice (some ⟨gQ,0,none⟩) 1 1) [⟨x,[(m,1000000)]⟩]:=
 ⟨some ⟨gQ,0,none⟩,1,[(⟨x,[(m,1000000)]⟩,.slice (some ⟨gS,0,none⟩) 1 1)],rfl,rfl,Nat.le_refl _,by decide,h.blkRd,fun q hq=>by
   obtain rfl:=List.mem_singleton.1 hq
   exact⟨some ⟨gS,0,none⟩,1,rfl,Nat.le_refl _,by decide,h.tail.blkRd⟩⟩
theorem St.reqsTwo {gQ gS gT:Nat} {x z:Tm.Qk} {m n:Int} (h:St lo w0 w (Qa gQ 43 #[.string ⟨x.toArray⟩,.slice (some ⟨gS,0,none⟩) 1 1,.string ⟨z.toArray⟩,.slice (some ⟨gT,0,none⟩) 1 1]::Qa gS 79 #[.int .i64 m,.int .i64 1000000]::Qa gT 79 #[.int .i64 n,.int .i64 1000000]::Rs)):
 Qt w (fun k=>lo≤k) (.slice (some ⟨gQ,0,none⟩) 2 2) [⟨x,[(m,1000000)]⟩,⟨z,[(n,1000000)]⟩]:=
 ⟨some ⟨gQ,0,none⟩,2,[(⟨x,[(m,1000000)]⟩,.slice (some ⟨gS,0,none⟩) 1 1),(⟨z,[(n,1000000)]⟩,.slice (some ⟨gT,0,none⟩) 1 1)],rfl,rfl,Nat.le_refl _,by decide,h.blkRd,fun q hq=>by
   rcases List.mem_cons.1 hq with rfl|hq
   ·exact⟨some ⟨gS,0,none⟩,1,rfl,Nat.le_refl _,by decide,h.tail.blkRd⟩
   ·obtain rfl:=List.mem_singleton.1 hq
    exact⟨some ⟨gT,0,none⟩,1,rfl,Nat.le_refl _,by decide,h.tail.tail.blkRd⟩⟩
def exRC (g:Nat):Array Value:=#[.string ⟨Qq.toArray⟩,.int .i64 1,.int .i64 0,.int .i64 0,.slice (some ⟨g,0,none⟩) 1 1,.string ⟨#[]⟩,.string ⟨#[]⟩,.string ⟨#[]⟩,.bool false,
 .string ⟨Qo.toArray⟩,.int .i64 1,.int .i64 0,.int .i64 0,.slice none 0 0,.string ⟨#[]⟩,.string ⟨#[]⟩,.string ⟨#[]⟩,.bool false,
 .string ⟨Qo.toArray⟩,.int .i64 1,.int .i64 1,.int .i64 0,.slice none 0 0,.string ⟨#[]⟩,.string ⟨#[]⟩,.string ⟨#[]⟩,.bool false,
 .string ⟨Qo.toArray⟩,.int .i64 1,.int .i64 2,.int .i64 0,.slice none 0 0,.string ⟨#[]⟩,.string ⟨#[]⟩,.string ⟨#[]⟩,.bool false]
theorem St.relsEx {gR gQ gS:Nat} (h:St lo w0 w (Qa gR 46 (exRC gQ)::Qa gQ 43 #[.string ⟨Qo.toArray⟩,.slice (some ⟨gS,0,none⟩) 1 1]::Qa gS 79 #[.int .i64 1000,.int .i64 1000000]::Rs)):
 Qx w (fun k=>lo≤k) (.slice (some ⟨gR,0,none⟩) 4 4) (Jl (.slice (some ⟨gQ,0,none⟩) 1 1)):=
 ⟨some ⟨gR,0,none⟩,4,rfl,Nat.le_refl _,by decide,h.blkRd,Rp (p:=fun r=>Qt w (fun k=>lo≤k) r.rv r.reqs) h.tail.reqsOne fun m _=>⟨none,0,[],rfl,rfl,Nat.le_refl _,by decide,.inl rfl,fun q hq=>by cases hq⟩⟩
end
theorem select_ex (A qA rA:Option Addr) (c qC rC:Nat) (F G:Nat→Prop) (w:World) (h:Qx w F (.slice A 4 c) (Jl (.slice qA 1 qC))) (h2:Qt w G (.slice rA 1 rC) Bk) (hg:Ji w):
 Calls prog 8 #[.agg #[.slice A 4 c,.slice none 0 0],.slice rA 1 rC] w fun e w'=>∃ sA sC,e=.returned (.tuple #[.slice sA 2 sC,.int .i64 0])∧Below w.heap.size w w'∧Xz w' (fun k=>w.heap.size≤k) (.slice sA 2 sC) (Ke 1):=by
 have k:=Nt (Jl (.slice qA 1 qC)) Bk _ (.slice none 0 0) _ F G w h h2 (W6 _) Gw rfl hg (Tq _) (show (4:Nat)≤1048576 by decide) (exV_R _) (by decide);have hss:=Tm.Uw (Oz (Tq (.slice qA 1 qC)) (P3 _)) (show (4:Nat)≤16 by decide);refine k.mono ?_;rintro e w' ⟨hb,⟨rfl,hm⟩|⟨A',c',L,rfl,hnm,hch,hsf⟩⟩
 ·exfalso
  have:=hss.1 hm;rw[If] at this
  cases this
 ·have hsame:(L.map fun i=>Zg (xD (Jl (.slice qA 1 qC)) i))=Ke 1:=Oi (Tq _) (P3 _) (show (4:Nat)≤16 by decide) (If _) hnm hch (D:=exD (.slice qA 1 qC)) (by kernel_rfl) (exD_mem _) (List.Perm.refl _) exT_sorted
  rw[hsame] at hsf
  have hl:L.length=2:=by
   have:=congrArg List.length hsame
   rwa [List.length_map] at this
  rw[hl] at hsf ⊢;exact⟨A',c',rfl,hb,hsf⟩
theorem make_ex (A qA rA:Option Addr) (c qC rC:Nat) (F:Nat→Prop) (w:World) (h:Qx w F (.slice A 4 c) (Jl (.slice qA 1 qC))) (h2:Qt w F (.slice rA 1 rC) Bk) (hg:Ji w):
 Calls prog 13 #[.agg #[.slice A 4 c,.slice none 0 0],.slice rA 1 rC] w fun e w'=>∃ tA eA jA kA tC eC jC kC,e=.returned (.tuple #[.agg #[.slice tA 1 tC,.slice eA 2 eC,.slice jA 1 jC,.slice kA 0 kC],.int .i64 0])∧
  St w.heap.size w w' [rqR (.slice tA 1 tC) Bk,Xl eA (exL.flatMap enC),Xl jA (exI.flatMap Xj)]:=by
 have k:=make_spec (Jl (.slice qA 1 qC)) Bk _ _ none 0 0 F w h h2 (W6 _) (exV_R _) Gw (show (4:Nat)≤16 by decide) (ex_valid _) hg _ _ _ _ (If _);unfold MakeP at k;refine k.mono ?_;rintro e w' ⟨d,t,k0,S,hs,tA,tC,eA,eC,jA,jC,kA,kC,xs,L,D,rfl,hd,hD,hp,hst,-,-,-,-,-,-,-,-,-,y⟩;rw[If] at hs;obtain⟨h1,h3⟩:=Prod.mk.inj hs;obtain⟨h4,h5⟩:=Prod.mk.inj (Option.some.inj h1);obtain⟨-,h6⟩:=Prod.mk.inj h3;subst h5;have hSel:D.map Zg=Ke 1:=Km (exV_zero (.slice qA 1 qC)) D (exD (.slice qA 1 qC)) hD (exD_mem _) (by rw[hd,←h4];kernel_rfl);obtain rfl:=ex_pair (hSel▸hp) hst;have hI:S.infs=exI:=by rw[←h6];exact ex_infs
 rw[hI,ex_ent] at y;rw[hI];exact⟨tA,eA,jA,kA,tC,eC,jC,kC,rfl,y.pk [0,1,2]⟩
theorem core_ex (A qA rA:Option Addr) (c qC rC:Nat) (F:Nat→Prop) (w:World) (h:Qx w F (.slice A 4 c) (Jl (.slice qA 1 qC))) (h2:Qt w F (.slice rA 2 rC) Hx) (hg:Ji w):
 Calls prog 14 #[.agg #[.slice A 4 c,.slice none 0 0],.slice rA 2 rC] w fun e w'=>∃ g kC,e=.returned (.tuple #[.slice (some ⟨g,0,none⟩) 1 kC,.int .i64 0])∧St w.heap.size w w' [Qh 3 1 (.slice (some ⟨g,0,none⟩) 1 kC) 1 [.int .i64 1]]:=by
 have k:=core_spec (Jl (.slice qA 1 qC)) Hx _ _ none 0 0 F w h h2 (W6 _) exR2_small (show (4:Nat)≤16 by decide) (ex_valid2 _) hg _ _ (ex_res2 _) (fun m hm=>by
  rw[Gu]
  match m,hm with
  |0,_=>rw[ex_core0];exact ex_val0 _
  |1,_=>rw[ex_core1];exact ex_val1 _) (fun m hm=>by
  rw[Gu]
  match m,hm with
  |0,_=>rw[ex_core0];decide
  |1,_=>rw[ex_core1];decide
  |2,_=>rw[ex_core2];decide)
 unfold CoreP at k;rw[Gu,show Hx.length=2 from rfl,ex_core2] at k;refine k.mono ?_;rintro e w' ⟨kA,kC,rfl,y⟩;obtain⟨g,cc,e1⟩:=y.own_one;obtain⟨rfl,-,rfl⟩:=Value.slice.inj e1;exact⟨g,kC,rfl,y⟩
end Go.Proofs.YtiefajiebebgoaaGreatDoor
