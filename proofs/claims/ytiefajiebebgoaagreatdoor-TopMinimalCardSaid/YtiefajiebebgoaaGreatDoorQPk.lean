/- Lemmas and contracts on what the walks need, several small texts in one. Conditions: as each theorem states. -/
import Derived.Test.YtiefajiebebgoaaGreatDoorQHd
import Derived.Test.YtiefajiebebgoaaGreatDoorQPj
import Derived.Laws.EntriesVeiled
set_option maxRecDepth 20000
set_option maxHeartbeats 16000000
open Go.Proofs.Tryz
namespace Go.Proofs.YtiefajiebebgoaaGreatDoor
set_option linter.unusedVariables false
open Go.RowKit Go.Shelf
attribute [local go_sem] Oper.semAt_some
def Qq:Tm.Qk:=[97,47,118,49]
def Qo:Tm.Qk:=[98,47,118,49]
def exX:List Tm.Qp:=[⟨Qq,0,[⟨Qo,[(1000,1000000)]⟩],false⟩,⟨Qo,0,[],false⟩,⟨Qo,1000,[],false⟩,⟨Qo,2000,[],false⟩]
def Bk:List Tm.Qw:=[⟨Qq,[(0,1000000)]⟩]
def Hx:List Tm.Qw:=[⟨Qq,[(0,1000000)]⟩,⟨Qo,[(3000,1000000)]⟩]
def exL:List EntV:=[((Qq,1,0,0),[],[]),((Qo,1,1,0),[],[])]
def exI:List Tm.D7:=[(1,Qq,0,0,0,0)]
theorem Gw:∀ q∈Bk,Zu q:=fun q hq=>by obtain rfl:=List.mem_singleton.1 hq;exact⟨by decide,by decide⟩
theorem formed_ex (rA eA jA kA:Option Addr) (rC eC jC kC:Nat) (F:Nat→Prop) (w:World) (h1:Qt w F (.slice rA 1 rC) Bk) (h2:Z9 w F eA (exL.flatMap enC)) (h3:Z9 w F jA (exI.flatMap Xj)) (hg:Ji w):
 Calls prog 39 #[.agg #[.slice rA 1 rC,.slice eA 2 eC,.slice jA 1 jC,.slice kA 0 kC]] w fun e w'=>e=.returned (.bool true)∧Below w.heap.size w w':=by
 have k1:∀ W,Below w.heap.size w W→Calls prog 22 #[.slice rA 1 rC] W fun e w'=>e=.returned (.int .i64 0)∧Below W.heap.size W w':=fun W hW=>by have:=Yz Bk _ F W (h1.below hW) Gw (hg.below hW);rw[show U5 Bk=0 by kernel_rfl] at this;exact this
 have y0:=(St.nil w).alloc 51 #[.slice rA 1 rC,.slice eA 2 eC,.slice jA 1 jC,.slice kA 0 kC];obtain⟨W0,hW0⟩:∃ W,w.alloc (.cells #[.slice rA 1 rC,.slice eA 2 eC,.slice jA 1 jC,.slice kA 0 kC] 51)=W:=⟨_,rfl⟩;rw[hW0] at y0;have k1:=k1 W0 y0.below;have x0:=y0.blk.cell 0;have Y0:=Kd y0;have HH:=Kd3 h2 h3 hg;clear h1 h2 h3 hg y0;go_enter func39,ntmps39;go_wp2_with fail;refine k1.mono ?_;rintro e w1 ⟨rfl,z1⟩;have y1:=Y0.out.under z1;have x1:=y1.blk.cell 1;have x2:=y1.blk.cell 2;have x3:=y1.blk.cell 3;have Y1:=Kd y1;clear k1 Y0 hW0 x0 z1 y1;go_wp2;clear x1 x2 x3
 go_loopw [35] (fun i wr=>∃ j:Nat,j≤2∧i=.int .i64 j∧Hid (St w.heap.size w wr [Qa w.heap.size 51 #[.slice rA 1 rC,.slice eA 2 eC,.slice jA 1 jC,.slice kA 0 kC]])) (fun i _=>2-(intOf i).toNat)
 case atStart=>exact⟨0,by omega,rfl,Y1⟩
 case round=>
  obtain⟨j,hj,rfl,hst⟩:=hrel;obtain rfl|rfl|rfl:j=0∨j=1∨j=2:=by omega
  ·obtain⟨b,off,rfl,hb,s0,s1,s2,s3,s4,s5⟩:=V6 (HH.out.1.keep (Qm.of_below hst.out.below)) (j:=0) (by decide)
   replace s0:_=some (Value.string ⟨Qq.toArray⟩):=s0;replace s1:_=some (Value.int .i64 1):=s1;replace s2:_=some (Value.int .i64 0):=s2;replace s3:_=some (Value.int .i64 0):=s3;replace s4:_=some (Value.string ⟨#[]⟩):=s4;replace s5:_=some (Value.string ⟨#[]⟩):=s5;simp only[Nat.zero_mul,Nat.add_zero] at s0 s1 s2 s3 s4 s5;have y2:=hst.out.alloc 84 #[.string ⟨Qq.toArray⟩,.int .i64 1,.int .i64 0,.int .i64 0,.string ⟨#[]⟩,.string ⟨#[]⟩];have kl:=Xu Qq _ (by decide) (HH.out.2.2.below y2.below);rw[show Uz Qq=some 1 by kernel_rfl] at kl;have x0:=y2.blk.cell 0;have Y2:=Kd y2;clear y2 hst;go_wp2_with fail;refine kl.mono ?_;rintro e w3 ⟨⟨nm,rfl⟩,z3⟩;have y3:=Y2.out.under z3;have f0:=y3.blk.cell 1;have Y3:=Kd y3;clear kl Y2 x0 z3 s0 s1 s2 s3 s4 s5;generalize hg4:wr.heap.size=g4 at Y3 f0 ⊢;clear hg4;go_wp2;have kv:∀ W,Below w3.heap.size w3 W→Calls prog 71 #[.agg #[.int .i64 1,.int .i64 0,.int .i64 0]] W fun e w'=>e=.returned (.bool true)∧Below W.heap.size W w':=fun W _=>Kg 1 0 0 W;have kd:∀ W,Below w3.heap.size w3 W→Calls prog 72 #[.string ⟨#[]⟩] W fun e w'=>e=.returned (.bool true)∧Below W.heap.size W w':=fun W _=>N7 [] W rfl;have hS:∀(w':World),Below w3.heap.size w3 w'→w'.cell? ⟨g4,0,none⟩=some (.string ⟨Qq.toArray⟩)∧w'.cell? ⟨g4,1,none⟩=some (.int .i64 1)∧w'.cell? ⟨g4,2,none⟩=some (.int .i64 0)∧w'.cell? ⟨g4,3,none⟩=some (.int .i64 0)∧w'.cell? ⟨g4,4,none⟩=some (.string ⟨#[]⟩)∧w'.cell? ⟨g4,5,none⟩=some (.string ⟨#[]⟩):=fun w' z=>by have b:=(Y3.out.under z).blk;exact⟨b.cell 0,b.cell 1,b.cell 2,b.cell 3,b.cell 4,b.cell 5⟩
   have HS:=Kd hS;have KV:=Kd kv;have KD:=Kd kd;have r1:Below w3.heap.size w3 w3:=Below.refl _ _;clear hS kv kd f0;refine wp_region_noPanic ?_;refine wp_region_held_drew (S:=(fun W'=>W'.cell? ⟨g4,0,none⟩=some (.string ⟨Qq.toArray⟩)∧W'.cell? ⟨g4,1,none⟩=some (.int .i64 1)∧W'.cell? ⟨g4,2,none⟩=some (.int .i64 0)∧W'.cell? ⟨g4,3,none⟩=some (.int .i64 0)∧W'.cell? ⟨g4,4,none⟩=some (.string ⟨#[]⟩)∧W'.cell? ⟨g4,5,none⟩=some (.string ⟨#[]⟩))) (by kernel_rfl) ?_ (fun hH0=>?_)
   ·exact HS.out _ r1.drew
   refine tk 0 47 hH0 ?_;refine tk 1 48 hH0 ?_;refine tk 2 49 hH0 ?_;refine tk 3 50 hH0 ?_;refine tk 4 51 hH0 ?_;refine Zk [5] ?_;refine an 52 fun K hK=>?_
   go_simp;(
    with_reducible refine(KV.out _ r1.drew).mono ?_
    rintro e w4 ⟨rfl,z4⟩
    have r2:Below w3.heap.size w3 w4:=Q0 r1.drew z4);go_wp2_with fail
   refine hK.out _ _ ?_ (fun hH1=>?_)
   ·exact HS.out _ r2
   clear hK K hH0
   try simp only[pu]
   refine tk 6 53 hH1 ?_;refine tk 7 54 hH1 ?_;refine tk 8 55 hH1 ?_;refine tk 9 56 hH1 ?_;refine tk 10 57 hH1 ?_;refine tk 11 58 hH1 ?_;refine tk 12 59 hH1 ?_;refine tk 13 60 hH1 ?_;refine tk 14 61 hH1 ?_;refine tk 15 62 hH1 ?_;refine tk 16 63 hH1 ?_;refine tk 17 64 hH1 ?_;refine Zk [18] ?_;refine an 65 fun K hK=>?_
   go_simp;(
    with_reducible refine(KD.out _ r2).mono ?_
    rintro e w5 ⟨rfl,z5⟩
    have r3:Below w3.heap.size w3 w5:=Q0 r2 z5);go_wp2_with fail
   refine hK.out _ _ ?_ (fun hH2=>?_)
   ·exact HS.out _ r3
   clear hK K hH1
   try simp only[pu]
   refine tk 19 66 hH2 ?_;refine tk 20 67 hH2 ?_;refine tk 21 68 hH2 ?_;refine tk 22 69 hH2 ?_;refine tk 23 70 hH2 ?_;refine Zk [24] ?_;refine an 71 fun K hK=>?_
   go_simp;(
    with_reducible refine(KD.out _ r3).mono ?_
    rintro e w6 ⟨rfl,z6⟩
    have r4:Below w3.heap.size w3 w6:=Q0 r3 z6);go_wp2_with fail
   refine hK.out _ _ ?_ (fun hH3=>?_)
   ·exact HS.out _ r4
   clear hK K hH2
   try simp only[pu]
   refine tk 25 72 hH3 ?_;refine tk 26 73 hH3 ?_;refine tk 27 74 hH3 ?_;refine tk 28 75 hH3 ?_;refine tk 29 76 hH3 ?_;refine tk 30 77 hH3 ?_;refine tu 31 78 hH3 ?_;refine tu 32 79 hH3 ?_;refine tu 33 80 hH3 ?_;refine tu 34 81 hH3 ?_;refine tu 35 82 hH3 ?_;refine tu 36 83 hH3 ?_;refine tu 37 84 hH3 ?_;refine tu 38 85 hH3 ?_;refine tu 39 86 hH3 ?_;refine tu 40 87 hH3 ?_;refine tk 41 88 hH3 ?_;refine tk 42 89 hH3 ?_;refine dn ?_ _
   all_goals(refine NoPanic.normal ?_)
   all_goals(
    have R4:=Kd r4;clear r1 r2 r3 r4 z4 z5 z6 HS KV KD;go_wp2
    go_roundw
    case rel=>exact⟨0+1,by omega,by go_num,Kd ((Y3.out.under R4.out).tail)⟩
    case measure=>simp[intOf])
  ·obtain⟨b,off,rfl,hb,s0,s1,s2,s3,s4,s5⟩:=V6 (HH.out.1.keep (Qm.of_below hst.out.below)) (j:=1) (by decide)
   replace s0:_=some (Value.string ⟨Qo.toArray⟩):=s0;replace s1:_=some (Value.int .i64 1):=s1;replace s2:_=some (Value.int .i64 1):=s2;replace s3:_=some (Value.int .i64 0):=s3;replace s4:_=some (Value.string ⟨#[]⟩):=s4;replace s5:_=some (Value.string ⟨#[]⟩):=s5;simp only[Nat.one_mul,Nat.add_assoc,Nat.reduceAdd] at s0 s1 s2 s3 s4 s5;have y2:=hst.out.alloc 84 #[.string ⟨Qo.toArray⟩,.int .i64 1,.int .i64 1,.int .i64 0,.string ⟨#[]⟩,.string ⟨#[]⟩];have kl:=Xu Qo _ (by decide) (HH.out.2.2.below y2.below);rw[show Uz Qo=some 1 by kernel_rfl] at kl;have x0:=y2.blk.cell 0;have Y2:=Kd y2;clear y2 hst;go_wp2_with fail;refine kl.mono ?_;rintro e w3 ⟨⟨nm,rfl⟩,z3⟩;have y3:=Y2.out.under z3;have f0:=y3.blk.cell 1;have Y3:=Kd y3;clear kl Y2 x0 z3 s0 s1 s2 s3 s4 s5;generalize hg4:wr.heap.size=g4 at Y3 f0 ⊢;clear hg4;go_wp2;have kv:∀ W,Below w3.heap.size w3 W→Calls prog 71 #[.agg #[.int .i64 1,.int .i64 1,.int .i64 0]] W fun e w'=>e=.returned (.bool true)∧Below W.heap.size W w':=fun W _=>Kg 1 1 0 W;have kd:∀ W,Below w3.heap.size w3 W→Calls prog 72 #[.string ⟨#[]⟩] W fun e w'=>e=.returned (.bool true)∧Below W.heap.size W w':=fun W _=>N7 [] W rfl
   have hS:∀(w':World),Below w3.heap.size w3 w'→w'.cell? ⟨g4,0,none⟩=some (.string ⟨Qo.toArray⟩)∧w'.cell? ⟨g4,1,none⟩=some (.int .i64 1)∧w'.cell? ⟨g4,2,none⟩=some (.int .i64 1)∧w'.cell? ⟨g4,3,none⟩=some (.int .i64 0)∧w'.cell? ⟨g4,4,none⟩=some (.string ⟨#[]⟩)∧w'.cell? ⟨g4,5,none⟩=some (.string ⟨#[]⟩)∧w'.cell? ⟨w.heap.size,1,none⟩=some (.slice (some ⟨b,off,none⟩) 2 eC)∧w'.cell? ⟨b,off,none⟩=some (.string ⟨Qq.toArray⟩):=fun w' z=>by
    have b':=(Y3.out.under z).blk;have bl:=((Y3.out.under z).pk [1]).blk;refine⟨b'.cell 0,b'.cell 1,b'.cell 2,b'.cell 3,b'.cell 4,b'.cell 5,bl.cell 1,?_⟩;obtain⟨b2,off2,e2,-,q0,-⟩:=V6 (HH.out.1.keep (Qm.of_below (Y3.out.under z).below)) (j:=0) (by decide)
    cases e2
    exact q0
   have HS:=Kd hS;have KV:=Kd kv;have KD:=Kd kd;have r1:Below w3.heap.size w3 w3:=Below.refl _ _;clear hS kv kd f0;refine wp_region_noPanic ?_;refine wp_region_held_drew (S:=(fun W'=>W'.cell? ⟨g4,0,none⟩=some (.string ⟨Qo.toArray⟩)∧W'.cell? ⟨g4,1,none⟩=some (.int .i64 1)∧W'.cell? ⟨g4,2,none⟩=some (.int .i64 1)∧W'.cell? ⟨g4,3,none⟩=some (.int .i64 0)∧W'.cell? ⟨g4,4,none⟩=some (.string ⟨#[]⟩)∧W'.cell? ⟨g4,5,none⟩=some (.string ⟨#[]⟩)∧W'.cell? ⟨w.heap.size,1,none⟩=some (.slice (some ⟨b,off,none⟩) 2 eC)∧W'.cell? ⟨b,off,none⟩=some (.string ⟨Qq.toArray⟩))) (by kernel_rfl) ?_ (fun hH0=>?_)
   ·exact HS.out _ r1.drew
   refine tk 0 47 hH0 ?_;refine tk 1 48 hH0 ?_;refine tk 2 49 hH0 ?_;refine tk 3 50 hH0 ?_;refine tk 4 51 hH0 ?_;refine Zk [5] ?_;refine an 52 fun K hK=>?_
   go_simp;(
    with_reducible refine(KV.out _ r1.drew).mono ?_
    rintro e w4 ⟨rfl,z4⟩
    have r2:Below w3.heap.size w3 w4:=Q0 r1.drew z4);go_wp2_with fail
   refine hK.out _ _ ?_ (fun hH1=>?_)
   ·exact HS.out _ r2
   clear hK K hH0
   try simp only[pu]
   refine tk 6 53 hH1 ?_;refine tk 7 54 hH1 ?_;refine tk 8 55 hH1 ?_;refine tk 9 56 hH1 ?_;refine tk 10 57 hH1 ?_;refine tk 11 58 hH1 ?_;refine tk 12 59 hH1 ?_;refine tk 13 60 hH1 ?_;refine tk 14 61 hH1 ?_;refine tk 15 62 hH1 ?_;refine tk 16 63 hH1 ?_;refine tk 17 64 hH1 ?_;refine Zk [18] ?_;refine an 65 fun K hK=>?_
   go_simp;(
    with_reducible refine(KD.out _ r2).mono ?_
    rintro e w5 ⟨rfl,z5⟩
    have r3:Below w3.heap.size w3 w5:=Q0 r2 z5);go_wp2_with fail
   refine hK.out _ _ ?_ (fun hH2=>?_)
   ·exact HS.out _ r3
   clear hK K hH1
   try simp only[pu]
   refine tk 19 66 hH2 ?_;refine tk 20 67 hH2 ?_;refine tk 21 68 hH2 ?_;refine tk 22 69 hH2 ?_;refine tk 23 70 hH2 ?_;refine Zk [24] ?_;refine an 71 fun K hK=>?_
   go_simp;(
    with_reducible refine(KD.out _ r3).mono ?_
    rintro e w6 ⟨rfl,z6⟩
    have r4:Below w3.heap.size w3 w6:=Q0 r3 z6);go_wp2_with fail
   refine hK.out _ _ ?_ (fun hH3=>?_)
   ·exact HS.out _ r4
   clear hK K hH2
   try simp only[pu]
   refine tk 25 72 hH3 ?_;refine tk 26 73 hH3 ?_;refine tk 27 74 hH3 ?_;refine tk 28 75 hH3 ?_;refine tk 29 76 hH3 ?_;refine tk 30 77 hH3 ?_;refine tk 31 78 hH3 ?_;refine tk 32 79 hH3 ?_;refine tk 33 80 hH3 ?_;refine tk 34 81 hH3 ?_;refine tk 38 85 hH3 ?_;refine tk 39 86 hH3 ?_;refine Zk [35] ?_;refine an 82 fun K hK=>?_
   go_simp;go_wp2_with ((first
    | (with_reducible refine(KV.out _ r1.drew).mono ?_
       rintro e w4 ⟨rfl,z4⟩
       have r2:Below w3.heap.size w3 w4:=Q0 r1.drew z4)
    | (with_reducible refine(KD.out _ r2).mono ?_
       rintro e w5 ⟨rfl,z5⟩
       have r3:Below w3.heap.size w3 w5:=Q0 r2 z5)
    | (with_reducible refine(KD.out _ r3).mono ?_
       rintro e w6 ⟨rfl,z6⟩
       have r4:Below w3.heap.size w3 w6:=Q0 r3 z6)
    |fail))
   refine hK.out _ _ ?_ (fun hH4=>?_)
   ·exact HS.out _ r4
   clear hK K hH3
   try simp only[pu]
   refine tk 36 83 hH4 ?_;refine tk 37 84 hH4 ?_;refine tk 40 87 hH4 ?_;refine tk 41 88 hH4 ?_;refine tk 42 89 hH4 ?_;refine dn ?_ _
   all_goals(refine NoPanic.normal ?_)
   all_goals(
    have R4:=Kd r4;clear r1 r2 r3 r4 z4 z5 z6 HS KV KD;go_wp2
    go_roundw
    case rel=>exact⟨1+1,by omega,by go_num,Kd ((Y3.out.under R4.out).tail)⟩
    case measure=>simp[intOf])
  ·have Y3:=Kd hst.out
   have x2:=hst.out.blk.cell 2;clear hst hj;go_wp2;clear x2
   go_loopw [94] (fun i wr=>∃ j:Nat,j≤1∧i=.int .i64 j∧Hid (St w.heap.size w wr [Qa w.heap.size 51 #[.slice rA 1 rC,.slice eA 2 eC,.slice jA 1 jC,.slice kA 0 kC]])) (fun i _=>1-(intOf i).toNat)
   case atStart=>exact⟨0,by omega,rfl,Y3⟩
   case round=>
    obtain⟨j,hj,rfl,hst⟩:=hrel;obtain rfl|rfl:j=0∨j=1:=by omega
    ·obtain⟨b,off,rfl,c0,c1,c2,c3,c4,c5⟩:∃ b off,jA=some ⟨b,off,none⟩∧(wr.cell? ⟨b,off,none⟩=some (.int .i64 1)∧wr.cell? ⟨b,off+1,none⟩=some (.string ⟨Qq.toArray⟩)∧wr.cell? ⟨b,off+2,none⟩=some (.int .i64 0)∧wr.cell? ⟨b,off+3,none⟩=some (.int .i64 0)∧wr.cell? ⟨b,off+4,none⟩=some (.int .i64 0)∧wr.cell? ⟨b,off+5,none⟩=some (.int .i64 0)):=by
      rcases HH.out.2.1.keep (Qm.of_below hst.out.below) with h|⟨b,off,e,-,-,hc⟩
      ·cases h
      ·exact⟨b,off,e,hc 0 (by decide),hc 1 (by decide),hc 2 (by decide),hc 3 (by decide),hc 4 (by decide),hc 5 (by decide)⟩
     have y2:=hst.out.alloc 152 #[.int .i64 1,.string ⟨Qq.toArray⟩,.int .i64 0,.int .i64 0,.int .i64 0,.int .i64 0];have y3:=y2.alloc 3 #[.int .i64 0,.int .i64 0,.int .i64 0,.int .i64 0];have kn:=named_spec Qq (some ⟨_,0,none⟩) 4 4 [0,0,0,0] _ _ (by decide) y3.blkRd rfl (by decide);rw[World.size_alloc] at kn;have Y4:=Kd (y3.tail.tail);clear y2 y3 hst hj;go_wp2_with fail;refine kn.mono ?_;rintro e w5 ⟨rfl,z5⟩;have Y5:=Kd (Y4.out.under z5);clear kn Y4 z5 c0 c1 c2 c3 c4 c5;go_wp2;refine⟨?_,?measure⟩
     ·(repeat apply Exists.intro)
      refine⟨⟨1,by omega,by go_num,Y5⟩,?_⟩;rfl
     case measure=>simp[intOf]
    ·have Y5:=Kd hst.out
     have x3:=hst.out.blk.cell 3;have kc:=fun W=>cfSk_spec 75 #[] (enters_of func75 (by kernel_rfl) rfl) kA 0 kC (fun _=>undef) (fun _=>undef) (fun _=>undef) (fun _=>false) W (Nat.zero_le _) (fun j hj=>absurd hj (Nat.not_lt_zero _)) (fun j W hj=>absurd hj (Nat.not_lt_zero _));clear hst hj;go_wp2_with fail;refine(kc _).mono ?_;rintro e w7 ⟨bb,rfl,z7,hany⟩
     obtain rfl:bb=false:=by
      cases bb
      ·rfl
      ·obtain⟨i,-,hi⟩:=hany.1 rfl
       cases hi
     have Z7:=Kd (Y5.out.under z7).below;clear kc z7 hany x3;go_wp2;go_ret;exact⟨rfl,Z7.out⟩
theorem size_inf:(prog.info? 152).map (·.size)=some 6:=by kernel_rfl
theorem Cw (k:Int) (p:Tm.Qk) (a b c d:Int) (w:World):Calls prog 235 #[.agg #[.int .i64 k,.string ⟨p.toArray⟩,.int .i64 a,.int .i64 b,.int .i64 c,.int .i64 d]] w fun e w'=>e=.returned (.agg #[.int .i64 k,.string ⟨#[]⟩,.int .i64 0,.int .i64 0,.int .i64 c,.int .i64 d])∧Below w.heap.size w w':=by go_enter func235,ntmps235;go_wp2;have y:=((St.nil w).alloc 152 #[.int .i64 k,.string ⟨#[]⟩,.int .i64 0,.int .i64 0,.int .i64 c,.int .i64 d]).alloc 152 #[.int .i64 k,.string ⟨#[]⟩,.int .i64 0,.int .i64 0,.int .i64 c,.int .i64 d];rw[World.size_alloc] at y;refine bodyPost_ret (Jc rfl _ _ _ _ _ _ _ rfl y.blk underlying152 rfl size_inf) rfl ?_;exact⟨rfl,y.below⟩
theorem Td (w:World):Calls prog 192 #[] w fun e w'=>e=.returned (.agg #[.func (.func 233) #[] #[],.func (.func 234) #[] #[],.func (.func 235) #[] #[],.func (.func 236) #[] #[],.func (.func 237) #[] #[],.func (.func 238) #[] #[],.func (.func 239) #[] #[],.func (.func 240) #[] #[]])∧Below w.heap.size w w':=by have y:=(St.nil w).alloc 295 #[.func (.func 233) #[] #[],.func (.func 234) #[] #[],.func (.func 235) #[] #[],.func (.func 236) #[] #[],.func (.func 237) #[] #[],.func (.func 238) #[] #[],.func (.func 239) #[] #[],.func (.func 240) #[] #[]];go_enter func192,ntmps192;go_wp2;refine bodyPost_ret (Jc rfl _ _ _ _ _ _ _ rfl y.blk underlying295 rfl (by kernel_rfl)) rfl ?_;exact⟨rfl,y.below⟩
def Jl (rv:Value):List Qi:=[⟨Qq,1,0,0,[⟨Qo,[(1000,1000000)]⟩],rv,[],[],[],false⟩,⟨Qo,1,0,0,[],.slice none 0 0,[],[],[],false⟩,⟨Qo,1,1,0,[],.slice none 0 0,[],[],[],false⟩,⟨Qo,1,2,0,[],.slice none 0 0,[],[],[],false⟩]
theorem Gu (rv:Value):(Jl rv).map Qf=exX:=by kernel_rfl
theorem ex_row {w:World} {F:Nat→Prop} {A qA:Option Addr} {c qC:Nat} (h:Qx w F (.slice A 4 c) (Jl (.slice qA 1 qC))):Qt w F (.slice qA 1 qC) [⟨Qo,[(1000,1000000)]⟩]:=by obtain⟨_,_,-,-,-,-,hq⟩:=h;exact hq _ (List.mem_cons_self ..)
theorem release_ex (A qA:Option Addr) (c qC g:Nat) (F:Nat→Prop) (w:World) (h:Qx w F (.slice A 4 c) (Jl (.slice qA 1 qC))) (hg:g<w.heap.size) (h0:w.cell? ⟨g,0,none⟩=some (.slice A 4 c)):
 Calls prog 270 #[.pointer (some ⟨g,0,none⟩),.string ⟨Qq.toArray⟩,.int .i64 0] w fun e w'=>e=.returned (.tuple #[.agg #[.string ⟨Qq.toArray⟩,.int .i64 1,.int .i64 0,.int .i64 0,.slice qA 1 qC,.string ⟨#[]⟩,.string ⟨#[]⟩,.string ⟨#[]⟩,.bool false],.bool true])∧Below w.heap.size w w':=by
 obtain⟨A',c',e,-,-,hr,-⟩:=id h;obtain⟨rfl,-,rfl⟩:=Value.slice.inj e;have y0:=(St.nil w).alloc 46 #[.string ⟨#[]⟩,.int .i64 0,.int .i64 0,.int .i64 0,.slice none 0 0,.string ⟨#[]⟩,.string ⟨#[]⟩,.string ⟨#[]⟩,.bool false];have c0:=(y0.below.cell (p:=⟨g,0,none⟩) hg).trans h0;obtain⟨W0,hW0⟩:∃ W,w.alloc (.cells #[.string ⟨#[]⟩,.int .i64 0,.int .i64 0,.int .i64 0,.slice none 0 0,.string ⟨#[]⟩,.string ⟨#[]⟩,.string ⟨#[]⟩,.bool false] 46)=W:=⟨_,rfl⟩;rw[hW0] at y0 c0;obtain⟨b,off,rfl,-,s0,s1,s2,s3,s4,s5,s6,s7,s8⟩:=Ju (hr.keep (Qm.of_below y0.below)) (j:=0) (Nat.succ_pos 3);replace s0:_=some (Value.string ⟨Qq.toArray⟩):=s0;replace s1:_=some (Value.int .i64 1):=s1;replace s2:_=some (Value.int .i64 0):=s2;replace s3:_=some (Value.int .i64 0):=s3;replace s4:_=some (Value.slice qA 1 qC):=s4;replace s5:_=some (Value.string ⟨#[]⟩):=s5;replace s6:_=some (Value.string ⟨#[]⟩):=s6;replace s7:_=some (Value.string ⟨#[]⟩):=s7;replace s8:_=some (Value.bool false):=s8;simp only[Nat.zero_mul,Nat.add_zero] at s0 s1 s2 s3 s4 s5 s6 s7 s8;have kp:∀ W,Calls prog 91 #[.agg #[.int .i64 1,.int .i64 0,.int .i64 0]] W fun e w'=>e=.returned (.tuple #[.int .i64 0,.int .i64 0])∧Below W.heap.size W w':=fun W=>Z6 1 0 0 W (by decide);have Y1:=Kd (y0.alloc 46 #[.string ⟨Qq.toArray⟩,.int .i64 1,.int .i64 0,.int .i64 0,.slice qA 1 qC,.string ⟨#[]⟩,.string ⟨#[]⟩,.string ⟨#[]⟩,.bool false]);clear h e hr y0 h0;go_enter func270,ntmps270;go_wp2;refine wp_loop_once ?_;go_wp2_with fail;refine(kp _).mono ?_;rintro e w3 ⟨rfl,z3⟩;have y3:=Y1.out.under z3;obtain⟨t0,t1,t2,t3,t4,t5,t6,t7,t8⟩:=Ip y3.blk;have ye:=y3.pk [1];obtain⟨u0,u1,u2,u3,u4,u5,u6,u7,u8⟩:=Ip ye.blk;obtain⟨f0,f1,f2,f3,f4,f5,f6,f7,f8⟩:=bk9f ye.blk;have YE:=Kd ye;have gl:=ye.blk.lt;clear ye y3 z3 Y1 kp s0 s1 s2 s3 s4 s5 s6 s7 s8 c0 hW0;generalize W0.heap.size=g2 at t0 t1 t2 t3 t4 t5 t6 t7 t8 ⊢;go_wp2;have yz:=(((((((((YE.out.set_ 0 (.string ⟨Qq.toArray⟩)).set_ 1 (.int .i64 1)).set_ 2 (.int .i64 0)).set_ 3 (.int .i64 0)).set_ 4 (.slice qA 1 qC)).set_ 5 (.string ⟨#[]⟩)).set_ 6 (.string ⟨#[]⟩)).set_ 7 (.string ⟨#[]⟩)).set_ 8 (.bool false));simp only[List.setIfInBounds_toArray,List.set_cons_zero,List.set_cons_succ] at yz;refine bodyPost_ret (Jv rfl _ _ _ _ _ _ _ rfl yz.blk underlying46 rfl Au) rfl ?_;exact⟨rfl,yz.below⟩
theorem Cb (A qA:Option Addr) (c qC g:Nat) (F:Nat→Prop) (w:World) (h:Qx w F (.slice A 4 c) (Jl (.slice qA 1 qC))) (hg:g<w.heap.size) (h0:w.cell? ⟨g,0,none⟩=some (.slice A 4 c)):
 Calls prog 236 #[.pointer (some ⟨g,0,none⟩),.agg #[.int .i64 1,.string ⟨Qq.toArray⟩,.int .i64 0,.int .i64 0,.int .i64 0,.int .i64 0]] w fun e w'=>∃ dA dC,e=.returned (.tuple #[.slice dA 2 dC,.bool true])∧Below w.heap.size w w':=by
 have y0:=(St.nil w).alloc 152 #[.int .i64 1,.string ⟨Qq.toArray⟩,.int .i64 0,.int .i64 0,.int .i64 0,.int .i64 0];obtain⟨W0,hW0⟩:∃ W,w.alloc (.cells #[.int .i64 1,.string ⟨Qq.toArray⟩,.int .i64 0,.int .i64 0,.int .i64 0,.int .i64 0] 152)=W:=⟨_,rfl⟩;rw[hW0] at y0;have hl:g<W0.heap.size:=Nat.lt_of_lt_of_le hg y0.below.size;have kr:=release_ex A qA c qC g F W0 (h.below y0.below) hl ((y0.below.cell (p:=⟨g,0,none⟩) hg).trans h0);have x1:=y0.blk.cell 1;have x2:=y0.blk.cell 2;have Y0:=Kd y0;obtain⟨_,_,M,e1,e2,-,-,hrd,hsf⟩:=ex_row h;obtain⟨⟨q,v⟩,rfl⟩:∃ m,M=[m]:=List.length_eq_one_iff.1 (by rw[←List.length_map (f:=Prod.fst),e1];rfl);obtain rfl:q=⟨Qo,[(1000,1000000)]⟩:=by injection e1
 obtain⟨rfl,-,rfl⟩:=Value.slice.inj e2;have hsv:=hsf _ (List.mem_singleton.2 rfl);have HH:=Kd2 hrd hsv;clear h hg h0 y0 hl e2 hrd hsf hsv;go_enter func236,ntmps236;go_wp2_with fail;refine kr.mono ?_;rintro e w1 ⟨rfl,z1⟩;have y1:=(Y0.out.under z1).alloc 46 #[.string ⟨Qq.toArray⟩,.int .i64 1,.int .i64 0,.int .i64 0,.slice qA 1 qC,.string ⟨#[]⟩,.string ⟨#[]⟩,.string ⟨#[]⟩,.bool false];have x3:=(Y0.out.under z1).blk.cell 3;have hl1:=(Y0.out.under z1).blk.lt;have Y2:=Kd y1;clear kr z1 x1 x2 y1 Y0 hW0;go_wp2_with fail;obtain⟨W2,hW2⟩:∃ W,w1.alloc (.cells #[.string ⟨Qq.toArray⟩,.int .i64 1,.int .i64 0,.int .i64 0,.slice qA 1 qC,.string ⟨#[]⟩,.string ⟨#[]⟩,.string ⟨#[]⟩,.bool false] 46)=W:=⟨_,rfl⟩;rw[hW2] at Y2 ⊢;obtain⟨b,off,rfl,-,-,-⟩:=Jk (HH.out.1) (j:=0) (Nat.succ_pos 0)
 have hS:∀ w',Below W2.heap.size W2 w'→w'.cell? ⟨w.heap.size,1,none⟩=some (.string ⟨Qq.toArray⟩)∧w'.cell? ⟨w.heap.size,2,none⟩=some (.int .i64 0)∧w'.cell? ⟨w.heap.size,3,none⟩=some (.int .i64 0)∧w'.cell? ⟨w1.heap.size,4,none⟩=some (.slice (some ⟨b,off,none⟩) 1 qC)∧w'.cell? ⟨b,off,none⟩=some (.string ⟨Qo.toArray⟩)∧w'.cell? ⟨b,off+1,none⟩=some v:=fun w' z=>by
  have y:=Y2.out.under z;have bi:=(y.pk [1]).blk;obtain⟨_,_,e,-,r1,r2⟩:=Jk (HH.out.1.keep (Qm.of_below y.below)) (j:=0) (Nat.succ_pos 0)
  cases e
  simp only[Nat.zero_mul,Nat.add_zero] at r1 r2;exact⟨bi.cell 1,bi.cell 2,bi.cell 3,y.blk.cell 4,r1,r2⟩
 have hk:∀ W,Below W2.heap.size W2 W→Calls prog 149 #[.string ⟨Qq.toArray⟩,.int .i64 0,.agg #[.string ⟨Qo.toArray⟩,v]] W fun e w'=>∃ A c,e=.returned (.slice A 2 c)∧Below W.heap.size W w':=fun W z=>by refine(Fb Qq 0 ⟨Qo,[(1000,1000000)]⟩ v F W (HH.out.2.keep (Qm.of_below (Y2.out.under z).below)) ⟨by decide,by decide⟩ (by decide) (by decide) (by decide)).mono ?_;rintro e w' ⟨A,n,c,rfl,b1,ht⟩;obtain⟨_,_,e,-,-⟩:=ht.shape;obtain⟨rfl,hn,rfl⟩:=Value.slice.inj e;rw[show (Tm.G0 Qq 0 ⟨Qo,[(1000,1000000)]⟩).length=2 by kernel_rfl] at hn;subst hn;exact⟨_,_,rfl,b1⟩
 have HS:=Kd hS;have KK:=Kd hk;have r1:Below W2.heap.size W2 W2:=Below.refl _ _;clear hS hk hl1 x3;refine wp_region_noPanic ?_;refine wp_region_held_drew (S:=(fun w'=>w'.cell? ⟨w.heap.size,1,none⟩=some (.string ⟨Qq.toArray⟩)∧w'.cell? ⟨w.heap.size,2,none⟩=some (.int .i64 0)∧w'.cell? ⟨w.heap.size,3,none⟩=some (.int .i64 0)∧w'.cell? ⟨w1.heap.size,4,none⟩=some (.slice (some ⟨b,off,none⟩) 1 qC)∧w'.cell? ⟨b,off,none⟩=some (.string ⟨Qo.toArray⟩)∧w'.cell? ⟨b,off+1,none⟩=some v)) (by kernel_rfl) ?_ (fun hH0=>?_)
 ·exact HS.out _ r1.drew
 refine tk 0 33 hH0 ?_;refine tk 1 34 hH0 ?_;refine tk 2 35 hH0 ?_;refine tk 3 36 hH0 ?_;refine tk 4 37 hH0 ?_;refine tk 5 38 hH0 ?_;refine tk 6 39 hH0 ?_;refine tk 7 40 hH0 ?_;refine tk 8 41 hH0 ?_;refine tk 9 42 hH0 ?_;refine Zk [10] ?_;refine an 43 fun K hK=>?_
 go_simp;(
  with_reducible refine(KK.out _ r1.drew).mono ?_
  rintro e w4 ⟨A4,c4,rfl,z4⟩
  have r2:Below W2.heap.size W2 w4:=Q0 r1.drew z4);go_wp2_with fail
 refine hK.out _ _ ?_ (fun hH1=>?_)
 ·exact HS.out _ r2
 clear hK K hH0
 try simp only[pu]
 refine tk 11 8 hH1 ?_;refine dn ?_ _
 all_goals(refine NoPanic.normal ?_)
 all_goals(
  have R2:=Kd (Y2.out.under r2).below;clear r1 r2 z4 HS KK hW2;go_wp2;go_ret2
  exact⟨_,_,rfl,R2.out⟩)
theorem Rp {v:Value} {p:Qi→Prop} (h0:p ⟨Qq,1,0,0,[⟨Qo,[(1000,1000000)]⟩],v,[],[],[],false⟩) (h1:∀ m:Int,m=0∨m=1∨m=2→p ⟨Qo,1,m,0,[],.slice none 0 0,[],[],[],false⟩):∀ r∈Jl v,p r:=fun r hr=>by
 simp only[Jl,List.mem_cons,List.not_mem_nil,or_false] at hr;rcases hr with rfl|rfl|rfl|rfl
 ·exact h0
 ·exact h1 0 (.inl rfl)
 ·exact h1 1 (.inr (.inl rfl))
 ·exact h1 2 (.inr (.inr rfl))
theorem exL_A:Qq.length≤4294967000:=by decide
theorem exL_B:Qo.length≤4294967000:=by decide
theorem P4:([]:Tm.Qk).length≤4294967000:=by decide
theorem exL_q:Zu ⟨Qo,[(1000,1000000)]⟩:=⟨by decide,by decide⟩
theorem W6 (v:Value):Wp (Jl v):=Rp ⟨fun q hq=>by
 obtain rfl:=List.mem_singleton.1 hq
 exact exL_q,exL_A,P4,P4,P4⟩ fun m _=>⟨fun q hq=>(by cases hq),exL_B,P4,P4,P4⟩
theorem exV_R (v:Value):∀ r∈Jl v,K9 r:=Rp ⟨show 1≤1048576 by decide,fun q hq=>by
 obtain rfl:=List.mem_singleton.1 hq
 exact exL_q,exL_A⟩ fun m _=>⟨Nat.zero_le _,fun q hq=>(by cases hq),exL_B⟩
theorem Gv (v:Value):Gc (Jl v)=0:=by kernel_rfl
theorem St.ne2 {lo:Nat} {w0 w:World} {Rs:List Q3} {g k:Nat} {t u:TypeId} {cs ds:Array Value} (h:St lo w0 w (Qa g t cs::Qa k u ds::Rs)):g≠k:=by obtain⟨F,G,h1,h2,-,-,hd,-⟩:=h.open2;intro e;subst e;exact hd g (by rw[h1.2]) (by rw[h2.2])
theorem Dm (A qA iA:Option Addr) (c qC iN iC:Nat) (F:Nat→Prop) (w:World) (h:Qx w F (.slice A 4 c) (Jl (.slice qA 1 qC))) (hg:Ji w):
 Calls prog 33 #[.agg #[.slice A 4 c,.slice iA iN iC],.string ⟨Qq.toArray⟩,.agg #[.int .i64 1,.int .i64 0,.int .i64 0]] w fun e w'=>∃ rA rC,e=.returned (.tuple #[.agg #[.string ⟨Qq.toArray⟩,.int .i64 1,.int .i64 0,.int .i64 0,.slice rA 1 rC,.string ⟨#[]⟩,.string ⟨#[]⟩,.string ⟨#[]⟩,.bool false],.bool true])∧Below w.heap.size w w'∧Qt w' (fun k=>w.heap.size≤k) (.slice rA 1 rC) [⟨Qo,[(1000,1000000)]⟩]:=by
 refine(Ex _ _ iA iN iC F (Qq,1,0,0) ⟨Qq,1,0,0,[⟨Qo,[(1000,1000000)]⟩],.slice qA 1 qC,[],[],[],false⟩ w h (W6 _) (show 4≤1048576 by decide) (exV_R _) hg (Gv _) ⟨by decide,by decide,by decide,by decide⟩ (by kernel_rfl)).mono ?_;rintro e w' ⟨rv,rfl,hb,hr⟩;obtain⟨rA,rC,M,hM,rfl,-⟩:=id hr;have hl:M.length=1:=by rw[←List.length_map (f:=Prod.fst),hM];rfl
 rw[hl] at hr ⊢;exact⟨rA,rC,rfl,hb,hr⟩
theorem Dl (A qA iA:Option Addr) (c qC iN iC:Nat) (m:Int) (hm:m=0∨m=1∨m=2) (F:Nat→Prop) (w:World) (h:Qx w F (.slice A 4 c) (Jl (.slice qA 1 qC))) (hg:Ji w):
 Calls prog 33 #[.agg #[.slice A 4 c,.slice iA iN iC],.string ⟨Qo.toArray⟩,.agg #[.int .i64 1,.int .i64 m,.int .i64 0]] w fun e w'=>∃ rA rC,e=.returned (.tuple #[.agg #[.string ⟨Qo.toArray⟩,.int .i64 1,.int .i64 m,.int .i64 0,.slice rA 0 rC,.string ⟨#[]⟩,.string ⟨#[]⟩,.string ⟨#[]⟩,.bool false],.bool true])∧Below w.heap.size w w':=by
 refine(Ex _ _ iA iN iC F (Qo,1,m,0) ⟨Qo,1,m,0,[],.slice none 0 0,[],[],[],false⟩ w h (W6 _) (show 4≤1048576 by decide) (exV_R _) hg (Gv _) (by rcases hm with rfl|rfl|rfl<;>exact⟨by decide,by decide,by decide,by decide⟩) (by rcases hm with rfl|rfl|rfl<;>kernel_rfl)).mono ?_;rintro e w' ⟨rv,rfl,hb,hr⟩;obtain⟨rA,rC,M,hM,rfl,-⟩:=id hr;have hl:M.length=0:=by rw[←List.length_map (f:=Prod.fst),hM];rfl
 rw[hl];exact⟨rA,rC,rfl,hb⟩
theorem skp1_spec (p q:Tm.Qk) (i:Int) (v:Value) (s:List Tm.Sp) (F:Nat→Prop) (g k':Nat) (w:World) (hs:Qr w F v s) (hg:w.cell? ⟨g,0,none⟩=some (.string ⟨q.toArray⟩)) (hk:w.cell? ⟨k',0,none⟩=some (.int .i64 i)):
 Calls prog 133 #[.agg #[.string ⟨p.toArray⟩,v],.pointer (some ⟨g,0,none⟩),.pointer (some ⟨k',0,none⟩)] w fun e w'=>e=.returned (.bool (p==q&&!Tm.has s i))∧Below w.heap.size w w':=by
 have hl:=World.block_lt_of_cell? w _ hg;have hl2:=World.block_lt_of_cell? w _ hk;have hb:((⟨p.toArray⟩:ByteArray).toList==(⟨q.toArray⟩:ByteArray).toList)=(p==q):=by rw[Q7,Q7]
 obtain⟨A,c,rfl,h1,h2,h3⟩:=id hs;obtain⟨n,hn⟩:∃ n,s.length=n:=⟨_,rfl⟩;rw[hn] at hs ⊢;have z0:=b1 w (.cells #[.string ⟨p.toArray⟩,.slice A n c] 43);have k:=Ys s _ F i _ (hs.below z0);obtain⟨W0,hW0⟩:∃ W,w.alloc (.cells #[.string ⟨p.toArray⟩,.slice A n c] 43)=W:=⟨_,rfl⟩;have y0:=(St.nil w).alloc 43 #[.string ⟨p.toArray⟩,.slice A n c];rw[hW0] at k y0 z0;have x0:=y0.blk.cell 0;have x1:=y0.blk.cell 1;have e0:=(z0.cell (p:=⟨g,0,none⟩) hl).trans hg;have e1:=(z0.cell (p:=⟨k',0,none⟩) hl2).trans hk;generalize Tm.has s i=r at k ⊢;have Z0:=Kd z0;clear hs h1 h2 h3 z0 hn y0 hg hk
 cases hpq:p==q with
 |false =>rw[hpq] at hb;clear k;go_enter func133,ntmps133;go_wp2;go_ret;exact⟨rfl,Z0.out⟩
 |true =>rw[hpq] at hb;go_enter func133,ntmps133;go_wp2_with fail;refine k.mono ?_;rintro e w1 ⟨rfl,z1⟩;have Z1:=Kd (Q0 Z0.out z1);clear k z1;go_wp2;go_ret;exact⟨rfl,Z1.out⟩
theorem needy_ex (nA:Option Addr) (nC g k:Nat) (F:Nat→Prop) (w:World) (h:Qt w F (.slice nA 2 nC) [⟨Qq,[(0,1000000)]⟩,⟨Qo,[(1000,1000000)]⟩]) (hg:w.cell? ⟨g,0,none⟩=some (.string ⟨Qo.toArray⟩)) (hk:w.cell? ⟨k,0,none⟩=some (.int .i64 0)):
 Calls prog 26 #[.slice nA 2 nC,.func (.func 133) #[] #[.pointer (some ⟨g,0,none⟩),.pointer (some ⟨k,0,none⟩)]] w fun e w'=>e=.returned (.bool true)∧Below w.heap.size w w':=by
 obtain⟨A,c,M,hM,e,hc1,hc2,hr,hm⟩:=h;have hl:M.length=2:=by rw[←List.length_map (f:=Prod.fst),hM];rfl
 obtain⟨rfl,-,rfl⟩:=Value.slice.inj e;have h0:(M[0]'(by omega)).1=⟨Qq,[(0,1000000)]⟩:=by have:=congrArg (·[0]?) hM;simpa [hl] using this
 have h1:(M[1]'(by omega)).1=⟨Qo,[(1000,1000000)]⟩:=by have:=congrArg (·[1]?) hM;simpa [hl] using this
 refine(Vl 133 #[.pointer (some ⟨g,0,none⟩),.pointer (some ⟨k,0,none⟩)] (enters_of func133 (by kernel_rfl) rfl) nA 2 nC (fun j=>.string ⟨(M.getD j (⟨[],[]⟩,undef)).1.path.toArray⟩) (fun j=>(M.getD j (⟨[],[]⟩,undef)).2) (fun j=>(M.getD j (⟨[],[]⟩,undef)).1.path==Qo&&!Tm.has (M.getD j (⟨[],[]⟩,undef)).1.set 0) w (by decide) (fun j hj=>?_) (fun j W hj hb=>?_)).mono ?_
 ·obtain⟨b,off,e,hb,x0,x1⟩:=Jk hr (j:=j) (by omega)
  rw[List.getD_eq_getElem?_getD,List.getElem?_eq_getElem (by omega),Option.getD_some];exact⟨b,off,e,hb,x0,x1⟩
 ·rw[List.getD_eq_getElem?_getD,List.getElem?_eq_getElem (by omega),Option.getD_some]
  exact skp1_spec _ Qo 0 _ _ F g k W ((hm _ (List.getElem_mem _)).below hb) ((hb.cell (World.block_lt_of_cell? w _ hg)).trans hg) ((hb.cell (World.block_lt_of_cell? w _ hk)).trans hk)
 ·rintro e w' ⟨b,rfl,hb,ha⟩
  have:b=true:=ha.2 ⟨1,by decide,by
   dsimp only;rw[List.getD_eq_getElem?_getD,List.getElem?_eq_getElem (by omega),Option.getD_some,h1]
   rfl⟩
  rw[this];exact⟨rfl,hb⟩
theorem An (A qA kA fA:Option Addr) (c qC g kC fN fC:Nat) (bv nv:Value) (F:Nat→Prop) (w:World) (h:Qx w F (.slice A 4 c) (Jl (.slice qA 1 qC))) (hg:g<w.heap.size) (h0:w.cell? ⟨g,0,none⟩=some (.slice A 4 c)):
 Calls prog 81 #[.pointer (some ⟨g,0,none⟩),.slice kA 0 kC,bv,nv,.agg #[.string ⟨Qq.toArray⟩,.int .i64 1,.int .i64 0,.int .i64 0,.slice fA fN fC,.string ⟨#[]⟩,.string ⟨#[]⟩,.string ⟨#[]⟩,.bool false]] w fun e w'=>e=.returned (.tuple #[.slice kA 0 kC,.bool true])∧Below w.heap.size w w':=by
 obtain⟨A',c',e,-,-,hr,-⟩:=id h;obtain⟨rfl,-,rfl⟩:=Value.slice.inj e;have y0:=(St.nil w).alloc 46 #[.string ⟨Qq.toArray⟩,.int .i64 1,.int .i64 0,.int .i64 0,.slice fA fN fC,.string ⟨#[]⟩,.string ⟨#[]⟩,.string ⟨#[]⟩,.bool false];have c0:=(y0.below.cell (p:=⟨g,0,none⟩) hg).trans h0;obtain⟨W0,hW0⟩:∃ W,w.alloc (.cells #[.string ⟨Qq.toArray⟩,.int .i64 1,.int .i64 0,.int .i64 0,.slice fA fN fC,.string ⟨#[]⟩,.string ⟨#[]⟩,.string ⟨#[]⟩,.bool false] 46)=W:=⟨_,rfl⟩;rw[hW0] at y0 c0;have kp:∀ W,(Calls prog 91 #[.agg #[.int .i64 1,.int .i64 0,.int .i64 0]] W fun e w'=>e=.returned (.tuple #[.int .i64 0,.int .i64 0])∧Below W.heap.size W w')∧(Calls prog 91 #[.agg #[.int .i64 1,.int .i64 1,.int .i64 0]] W fun e w'=>e=.returned (.tuple #[.int .i64 1000,.int .i64 0])∧Below W.heap.size W w')∧(Calls prog 91 #[.agg #[.int .i64 1,.int .i64 2,.int .i64 0]] W fun e w'=>e=.returned (.tuple #[.int .i64 2000,.int .i64 0])∧Below W.heap.size W w'):=fun W=>⟨Z6 1 0 0 W (by decide),Z6 1 1 0 W (by decide),Z6 1 2 0 W (by decide)⟩;have k0:=(kp W0).1;have x1:=y0.blk.cell 1;have x2:=y0.blk.cell 2;have x3:=y0.blk.cell 3;have Y0:=Kd y0;have HH:=Kd hr;have KP:=Kd kp;clear h e hr y0 h0 kp;go_enter func81,ntmps81;go_wp2_with fail;refine k0.mono ?_;rintro e w1 ⟨rfl,z1⟩;have y1:=Y0.out.under z1;have c1:=(z1.cell (p:=⟨g,0,none⟩) (Nat.lt_of_lt_of_le hg Y0.out.below.size)).trans c0;have u0:=y1.blk.cell 0;have Y1:=Kd y1;clear k0 z1 x1 x2 x3 c0 y1 hW0;obtain⟨b,off,rfl,-,-⟩:=Ju (HH.out.keep (Qm.of_below Y1.out.below)) (j:=0) (show 0<4 by decide);go_wp2;refine wp_loop_rounds 5 ?_;rw[rounds_succ];obtain⟨b',off',e,-,s0,s1,s2,s3,s4,s5,s6,s7,s8⟩:=Ju (HH.out.keep (Qm.of_below Y1.out.below)) (j:=0) (show 0<4 by decide)
 cases e
 replace s0:_=some (Value.string ⟨Qq.toArray⟩):=s0;replace s1:_=some (Value.int .i64 1):=s1;replace s2:_=some (Value.int .i64 0):=s2;replace s3:_=some (Value.int .i64 0):=s3;replace s4:_=some (Value.slice qA 1 qC):=s4;replace s5:_=some (Value.string ⟨#[]⟩):=s5;replace s6:_=some (Value.string ⟨#[]⟩):=s6;replace s7:_=some (Value.string ⟨#[]⟩):=s7;replace s8:_=some (Value.bool false):=s8;simp only[Nat.zero_mul,Nat.add_zero] at s0 s1 s2 s3 s4 s5 s6 s7 s8;have kq:=(KP.out (w1.alloc (.cells #[.string ⟨Qq.toArray⟩,.int .i64 1,.int .i64 0,.int .i64 0,.slice qA 1 qC,.string ⟨#[]⟩,.string ⟨#[]⟩,.string ⟨#[]⟩,.bool false] 46))).1;have Y2:=Kd (Y1.out.alloc 46 #[.string ⟨Qq.toArray⟩,.int .i64 1,.int .i64 0,.int .i64 0,.slice qA 1 qC,.string ⟨#[]⟩,.string ⟨#[]⟩,.string ⟨#[]⟩,.bool false]);go_wp2_with fail;refine kq.mono ?_;rintro e w2 ⟨rfl,z2⟩;have y3:=Y2.out.under z2;have t0:=y3.blk.cell 0;have t6:=y3.blk.cell 8;have t1:=y3.blk.lt;clear u0;have u0:=(y3.pk [1]).blk.cell 0;have u1:=(y3.pk [1]).blk.lt;have V1:=Kd ((y3.alloc 3 #[.int .i64 0]).pk [2]);clear kq z2 Y2 y3 s0 s1 s2 s3 s4 s5 s6 s7 s8;generalize w1.heap.size=gb at t0 t1 t6 ⊢;go_wp2;clear t0 t1 t6 u0 u1;obtain⟨v1,hv⟩:∃ W,w2.alloc (.cells #[.int .i64 0] 3)=W:=⟨_,rfl⟩;rw[hv] at V1 ⊢;clear hv;have u0:=V1.out.blk.cell 0;rw[rounds_succ];obtain⟨b',off',e,-,s0,s1,s2,s3,s4,s5,s6,s7,s8⟩:=Ju (HH.out.keep (Qm.of_below V1.out.below)) (j:=1) (show 1<4 by decide)
 cases e
 replace s0:_=some (Value.string ⟨Qo.toArray⟩):=s0;replace s1:_=some (Value.int .i64 1):=s1;replace s2:_=some (Value.int .i64 0):=s2;replace s3:_=some (Value.int .i64 0):=s3;replace s4:_=some (Value.slice none 0 0):=s4;replace s5:_=some (Value.string ⟨#[]⟩):=s5;replace s6:_=some (Value.string ⟨#[]⟩):=s6;replace s7:_=some (Value.string ⟨#[]⟩):=s7;replace s8:_=some (Value.bool false):=s8;simp only[Nat.reduceMul,Nat.add_assoc,Nat.reduceAdd] at s0 s1 s2 s3 s4 s5 s6 s7 s8;have kq:=(KP.out (v1.alloc (.cells #[.string ⟨Qo.toArray⟩,.int .i64 1,.int .i64 0,.int .i64 0,.slice none 0 0,.string ⟨#[]⟩,.string ⟨#[]⟩,.string ⟨#[]⟩,.bool false] 46))).1;have Y2:=Kd (V1.out.alloc 46 #[.string ⟨Qo.toArray⟩,.int .i64 1,.int .i64 0,.int .i64 0,.slice none 0 0,.string ⟨#[]⟩,.string ⟨#[]⟩,.string ⟨#[]⟩,.bool false]);go_wp2_with fail;refine kq.mono ?_;rintro e w2 ⟨rfl,z2⟩;have y3:=Y2.out.under z2;have t0:=y3.blk.cell 0;have t6:=y3.blk.cell 8;have t1:=y3.blk.lt;clear u0;have u0:=(y3.pk [1]).blk.cell 0;have u1:=(y3.pk [1]).blk.lt;have V2:=Kd ((y3.alloc 3 #[.int .i64 0]).pk [2]);clear kq z2 Y2 y3 s0 s1 s2 s3 s4 s5 s6 s7 s8;generalize v1.heap.size=gb at t0 t1 t6 ⊢;go_wp2;clear t0 t1 t6 u0 u1;obtain⟨v2,hv⟩:∃ W,w2.alloc (.cells #[.int .i64 0] 3)=W:=⟨_,rfl⟩;rw[hv] at V2 ⊢;clear hv;have u0:=V2.out.blk.cell 0;rw[rounds_succ];obtain⟨b',off',e,-,s0,s1,s2,s3,s4,s5,s6,s7,s8⟩:=Ju (HH.out.keep (Qm.of_below V2.out.below)) (j:=2) (show 2<4 by decide)
 cases e
 replace s0:_=some (Value.string ⟨Qo.toArray⟩):=s0;replace s1:_=some (Value.int .i64 1):=s1;replace s2:_=some (Value.int .i64 1):=s2;replace s3:_=some (Value.int .i64 0):=s3;replace s4:_=some (Value.slice none 0 0):=s4;replace s5:_=some (Value.string ⟨#[]⟩):=s5;replace s6:_=some (Value.string ⟨#[]⟩):=s6;replace s7:_=some (Value.string ⟨#[]⟩):=s7;replace s8:_=some (Value.bool false):=s8;simp only[Nat.reduceMul,Nat.add_assoc,Nat.reduceAdd] at s0 s1 s2 s3 s4 s5 s6 s7 s8;have kq:=(KP.out (v2.alloc (.cells #[.string ⟨Qo.toArray⟩,.int .i64 1,.int .i64 1,.int .i64 0,.slice none 0 0,.string ⟨#[]⟩,.string ⟨#[]⟩,.string ⟨#[]⟩,.bool false] 46))).2.1;have Y2:=Kd (V2.out.alloc 46 #[.string ⟨Qo.toArray⟩,.int .i64 1,.int .i64 1,.int .i64 0,.slice none 0 0,.string ⟨#[]⟩,.string ⟨#[]⟩,.string ⟨#[]⟩,.bool false]);go_wp2_with fail;refine kq.mono ?_;rintro e w2 ⟨rfl,z2⟩;have y3:=Y2.out.under z2;have t0:=y3.blk.cell 0;have t6:=y3.blk.cell 8;have t1:=y3.blk.lt;clear u0;have u0:=(y3.pk [1]).blk.cell 0;have u1:=(y3.pk [1]).blk.lt;have V3:=Kd ((y3.alloc 3 #[.int .i64 1000]).pk [2]);clear kq z2 Y2 y3 s0 s1 s2 s3 s4 s5 s6 s7 s8;generalize v2.heap.size=gb at t0 t1 t6 ⊢;go_wp2;clear t0 t1 t6 u0 u1;obtain⟨v3,hv⟩:∃ W,w2.alloc (.cells #[.int .i64 1000] 3)=W:=⟨_,rfl⟩;rw[hv] at V3 ⊢;clear hv;have u0:=V3.out.blk.cell 0;rw[rounds_succ];obtain⟨b',off',e,-,s0,s1,s2,s3,s4,s5,s6,s7,s8⟩:=Ju (HH.out.keep (Qm.of_below V3.out.below)) (j:=3) (show 3<4 by decide)
 cases e
 replace s0:_=some (Value.string ⟨Qo.toArray⟩):=s0;replace s1:_=some (Value.int .i64 1):=s1;replace s2:_=some (Value.int .i64 2):=s2;replace s3:_=some (Value.int .i64 0):=s3;replace s4:_=some (Value.slice none 0 0):=s4;replace s5:_=some (Value.string ⟨#[]⟩):=s5;replace s6:_=some (Value.string ⟨#[]⟩):=s6;replace s7:_=some (Value.string ⟨#[]⟩):=s7;replace s8:_=some (Value.bool false):=s8;simp only[Nat.reduceMul,Nat.add_assoc,Nat.reduceAdd] at s0 s1 s2 s3 s4 s5 s6 s7 s8;have kq:=(KP.out (v3.alloc (.cells #[.string ⟨Qo.toArray⟩,.int .i64 1,.int .i64 2,.int .i64 0,.slice none 0 0,.string ⟨#[]⟩,.string ⟨#[]⟩,.string ⟨#[]⟩,.bool false] 46))).2.2;have Y2:=Kd (V3.out.alloc 46 #[.string ⟨Qo.toArray⟩,.int .i64 1,.int .i64 2,.int .i64 0,.slice none 0 0,.string ⟨#[]⟩,.string ⟨#[]⟩,.string ⟨#[]⟩,.bool false]);go_wp2_with fail;refine kq.mono ?_;rintro e w2 ⟨rfl,z2⟩;have y3:=Y2.out.under z2;have t0:=y3.blk.cell 0;have t6:=y3.blk.cell 8;have t1:=y3.blk.lt;clear u0;have u0:=(y3.pk [1]).blk.cell 0;have u1:=(y3.pk [1]).blk.lt;have V4:=Kd ((y3.alloc 3 #[.int .i64 2000]).pk [2]);clear kq z2 Y2 y3 s0 s1 s2 s3 s4 s5 s6 s7 s8;generalize v3.heap.size=gb at t0 t1 t6 ⊢;go_wp2;clear t0 t1 t6 u0 u1;obtain⟨v4,hv⟩:∃ W,w2.alloc (.cells #[.int .i64 2000] 3)=W:=⟨_,rfl⟩;rw[hv] at V4 ⊢;clear hv;have u0:=V4.out.blk.cell 0;rw[rounds_succ];have V5:=Kd V4.out.below;clear u0 V4;go_wp2;go_ret2;exact⟨rfl,V5.out⟩
theorem Am (A qA kA fA:Option Addr) (c qC g kC fN fC:Nat) (bv:Value) (F:Nat→Prop) (w:World) (h:Qx w F (.slice A 4 c) (Jl (.slice qA 1 qC))) (hg:g<w.heap.size) (h0:w.cell? ⟨g,0,none⟩=some (.slice A 4 c)) (nA:Option Addr) (nC:Nat) (G:Nat→Prop) (hn:Qt w G (.slice nA 2 nC) [⟨Qq,[(0,1000000)]⟩,⟨Qo,[(1000,1000000)]⟩]):
 Calls prog 81 #[.pointer (some ⟨g,0,none⟩),.slice kA 0 kC,bv,.slice nA 2 nC,.agg #[.string ⟨Qo.toArray⟩,.int .i64 1,.int .i64 1,.int .i64 0,.slice fA fN fC,.string ⟨#[]⟩,.string ⟨#[]⟩,.string ⟨#[]⟩,.bool false]] w fun e w'=>e=.returned (.tuple #[.slice kA 0 kC,.bool true])∧Below w.heap.size w w':=by
 obtain⟨A',c',e,-,-,hr,-⟩:=id h;obtain⟨rfl,-,rfl⟩:=Value.slice.inj e;have y0:=(St.nil w).alloc 46 #[.string ⟨Qo.toArray⟩,.int .i64 1,.int .i64 1,.int .i64 0,.slice fA fN fC,.string ⟨#[]⟩,.string ⟨#[]⟩,.string ⟨#[]⟩,.bool false];have c0:=(y0.below.cell (p:=⟨g,0,none⟩) hg).trans h0;obtain⟨W0,hW0⟩:∃ W,w.alloc (.cells #[.string ⟨Qo.toArray⟩,.int .i64 1,.int .i64 1,.int .i64 0,.slice fA fN fC,.string ⟨#[]⟩,.string ⟨#[]⟩,.string ⟨#[]⟩,.bool false] 46)=W:=⟨_,rfl⟩;rw[hW0] at y0 c0;have kp:∀ W,(Calls prog 91 #[.agg #[.int .i64 1,.int .i64 0,.int .i64 0]] W fun e w'=>e=.returned (.tuple #[.int .i64 0,.int .i64 0])∧Below W.heap.size W w')∧(Calls prog 91 #[.agg #[.int .i64 1,.int .i64 1,.int .i64 0]] W fun e w'=>e=.returned (.tuple #[.int .i64 1000,.int .i64 0])∧Below W.heap.size W w')∧(Calls prog 91 #[.agg #[.int .i64 1,.int .i64 2,.int .i64 0]] W fun e w'=>e=.returned (.tuple #[.int .i64 2000,.int .i64 0])∧Below W.heap.size W w'):=fun W=>⟨Z6 1 0 0 W (by decide),Z6 1 1 0 W (by decide),Z6 1 2 0 W (by decide)⟩;have k0:=(kp W0).2.1;have x1:=y0.blk.cell 1;have x2:=y0.blk.cell 2;have x3:=y0.blk.cell 3;have Y0:=Kd y0;have HH:=Kd hr;have KP:=Kd kp;have HN:=Kd hn;clear hn h e hr y0 h0 kp;go_enter func81,ntmps81;go_wp2_with fail;refine k0.mono ?_;rintro e w1 ⟨rfl,z1⟩;have y1:=Y0.out.under z1;have c1:=(z1.cell (p:=⟨g,0,none⟩) (Nat.lt_of_lt_of_le hg Y0.out.below.size)).trans c0;have u0:=y1.blk.cell 0;have Y1:=Kd y1;clear k0 z1 x1 x2 x3 c0 y1 hW0;obtain⟨b,off,rfl,-,-⟩:=Ju (HH.out.keep (Qm.of_below Y1.out.below)) (j:=0) (show 0<4 by decide);go_wp2;refine wp_loop_rounds 5 ?_;rw[rounds_succ];obtain⟨b',off',e,-,s0,s1,s2,s3,s4,s5,s6,s7,s8⟩:=Ju (HH.out.keep (Qm.of_below Y1.out.below)) (j:=0) (show 0<4 by decide)
 cases e
 replace s0:_=some (Value.string ⟨Qq.toArray⟩):=s0;replace s1:_=some (Value.int .i64 1):=s1;replace s2:_=some (Value.int .i64 0):=s2;replace s3:_=some (Value.int .i64 0):=s3;replace s4:_=some (Value.slice qA 1 qC):=s4;replace s5:_=some (Value.string ⟨#[]⟩):=s5;replace s6:_=some (Value.string ⟨#[]⟩):=s6;replace s7:_=some (Value.string ⟨#[]⟩):=s7;replace s8:_=some (Value.bool false):=s8;simp only[Nat.zero_mul,Nat.add_zero] at s0 s1 s2 s3 s4 s5 s6 s7 s8;have kq:=(KP.out (w1.alloc (.cells #[.string ⟨Qq.toArray⟩,.int .i64 1,.int .i64 0,.int .i64 0,.slice qA 1 qC,.string ⟨#[]⟩,.string ⟨#[]⟩,.string ⟨#[]⟩,.bool false] 46))).1;have Y2:=Kd (Y1.out.alloc 46 #[.string ⟨Qq.toArray⟩,.int .i64 1,.int .i64 0,.int .i64 0,.slice qA 1 qC,.string ⟨#[]⟩,.string ⟨#[]⟩,.string ⟨#[]⟩,.bool false]);go_wp2_with fail;refine kq.mono ?_;rintro e w2 ⟨rfl,z2⟩;have y3:=Y2.out.under z2;have t0:=y3.blk.cell 0;have t6:=y3.blk.cell 8;have t1:=y3.blk.lt;clear u0;have u0:=(y3.pk [1]).blk.cell 0;have u1:=(y3.pk [1]).blk.lt;have V1:=Kd ((y3.alloc 3 #[.int .i64 0]).pk [2]);clear kq z2 Y2 y3 s0 s1 s2 s3 s4 s5 s6 s7 s8;generalize w1.heap.size=gb at t0 t1 t6 ⊢;go_wp2;clear t0 t1 t6 u0 u1;obtain⟨v1,hv⟩:∃ W,w2.alloc (.cells #[.int .i64 0] 3)=W:=⟨_,rfl⟩;rw[hv] at V1 ⊢;clear hv;have u0:=V1.out.blk.cell 0;rw[rounds_succ];obtain⟨b',off',e,-,s0,s1,s2,s3,s4,s5,s6,s7,s8⟩:=Ju (HH.out.keep (Qm.of_below V1.out.below)) (j:=1) (show 1<4 by decide)
 cases e
 replace s0:_=some (Value.string ⟨Qo.toArray⟩):=s0;replace s1:_=some (Value.int .i64 1):=s1;replace s2:_=some (Value.int .i64 0):=s2;replace s3:_=some (Value.int .i64 0):=s3;replace s4:_=some (Value.slice none 0 0):=s4;replace s5:_=some (Value.string ⟨#[]⟩):=s5;replace s6:_=some (Value.string ⟨#[]⟩):=s6;replace s7:_=some (Value.string ⟨#[]⟩):=s7;replace s8:_=some (Value.bool false):=s8;simp only[Nat.reduceMul,Nat.add_assoc,Nat.reduceAdd] at s0 s1 s2 s3 s4 s5 s6 s7 s8;have kq:=(KP.out (v1.alloc (.cells #[.string ⟨Qo.toArray⟩,.int .i64 1,.int .i64 0,.int .i64 0,.slice none 0 0,.string ⟨#[]⟩,.string ⟨#[]⟩,.string ⟨#[]⟩,.bool false] 46))).1;have Y2:=Kd (V1.out.alloc 46 #[.string ⟨Qo.toArray⟩,.int .i64 1,.int .i64 0,.int .i64 0,.slice none 0 0,.string ⟨#[]⟩,.string ⟨#[]⟩,.string ⟨#[]⟩,.bool false]);go_wp2_with fail;refine kq.mono ?_;rintro e w2 ⟨rfl,z2⟩;have y3:=Y2.out.under z2;have t0:=y3.blk.cell 0;have t6:=y3.blk.cell 8;have t1:=y3.blk.lt;clear u0;have u0:=(y3.pk [1]).blk.cell 0;have u1:=(y3.pk [1]).blk.lt;have V2:=Kd ((y3.alloc 3 #[.int .i64 0]).pk [2]);have Q:=Kd (y3.alloc 3 #[.int .i64 0]);clear kq z2 Y2 y3 s0 s1 s2 s3 s4 s5 s6 s7 s8;generalize v1.heap.size=gb at t0 t1 t6 ⊢;go_wp2_with fail;refine(needy_ex nA nC w.heap.size w2.heap.size G _ (HN.out.below Q.out.below) ((Q.out.pk [2]).blk.cell 0) (Q.out.blk.cell 0)).mono ?_;rintro e v2 ⟨rfl,z5⟩;replace V2:=Kd ((Q.out.under z5).pk [2]);clear Q z5;go_wp2;clear t0 t1 t6 u0 u1;have u0:=V2.out.blk.cell 0;rw[rounds_succ];obtain⟨b',off',e,-,s0,s1,s2,s3,s4,s5,s6,s7,s8⟩:=Ju (HH.out.keep (Qm.of_below V2.out.below)) (j:=2) (show 2<4 by decide)
 cases e
 replace s0:_=some (Value.string ⟨Qo.toArray⟩):=s0;replace s1:_=some (Value.int .i64 1):=s1;replace s2:_=some (Value.int .i64 1):=s2;replace s3:_=some (Value.int .i64 0):=s3;replace s4:_=some (Value.slice none 0 0):=s4;replace s5:_=some (Value.string ⟨#[]⟩):=s5;replace s6:_=some (Value.string ⟨#[]⟩):=s6;replace s7:_=some (Value.string ⟨#[]⟩):=s7;replace s8:_=some (Value.bool false):=s8;simp only[Nat.reduceMul,Nat.add_assoc,Nat.reduceAdd] at s0 s1 s2 s3 s4 s5 s6 s7 s8;have kq:=(KP.out (v2.alloc (.cells #[.string ⟨Qo.toArray⟩,.int .i64 1,.int .i64 1,.int .i64 0,.slice none 0 0,.string ⟨#[]⟩,.string ⟨#[]⟩,.string ⟨#[]⟩,.bool false] 46))).2.1;have Y2:=Kd (V2.out.alloc 46 #[.string ⟨Qo.toArray⟩,.int .i64 1,.int .i64 1,.int .i64 0,.slice none 0 0,.string ⟨#[]⟩,.string ⟨#[]⟩,.string ⟨#[]⟩,.bool false]);go_wp2_with fail;refine kq.mono ?_;rintro e w2 ⟨rfl,z2⟩;have y3:=Y2.out.under z2;have t0:=y3.blk.cell 0;have t6:=y3.blk.cell 8;have t1:=y3.blk.lt;clear u0;have u0:=(y3.pk [1]).blk.cell 0;have u1:=(y3.pk [1]).blk.lt;have V3:=Kd ((y3.alloc 3 #[.int .i64 1000]).pk [2]);clear kq z2 Y2 y3 s0 s1 s2 s3 s4 s5 s6 s7 s8;generalize v2.heap.size=gb at t0 t1 t6 ⊢;go_wp2;clear t0 t1 t6 u0 u1;obtain⟨v3,hv⟩:∃ W,w2.alloc (.cells #[.int .i64 1000] 3)=W:=⟨_,rfl⟩;rw[hv] at V3 ⊢;clear hv;have u0:=V3.out.blk.cell 0;rw[rounds_succ];obtain⟨b',off',e,-,s0,s1,s2,s3,s4,s5,s6,s7,s8⟩:=Ju (HH.out.keep (Qm.of_below V3.out.below)) (j:=3) (show 3<4 by decide)
 cases e
 replace s0:_=some (Value.string ⟨Qo.toArray⟩):=s0;replace s1:_=some (Value.int .i64 1):=s1;replace s2:_=some (Value.int .i64 2):=s2;replace s3:_=some (Value.int .i64 0):=s3;replace s4:_=some (Value.slice none 0 0):=s4;replace s5:_=some (Value.string ⟨#[]⟩):=s5;replace s6:_=some (Value.string ⟨#[]⟩):=s6;replace s7:_=some (Value.string ⟨#[]⟩):=s7;replace s8:_=some (Value.bool false):=s8;simp only[Nat.reduceMul,Nat.add_assoc,Nat.reduceAdd] at s0 s1 s2 s3 s4 s5 s6 s7 s8;have kq:=(KP.out (v3.alloc (.cells #[.string ⟨Qo.toArray⟩,.int .i64 1,.int .i64 2,.int .i64 0,.slice none 0 0,.string ⟨#[]⟩,.string ⟨#[]⟩,.string ⟨#[]⟩,.bool false] 46))).2.2;have Y2:=Kd (V3.out.alloc 46 #[.string ⟨Qo.toArray⟩,.int .i64 1,.int .i64 2,.int .i64 0,.slice none 0 0,.string ⟨#[]⟩,.string ⟨#[]⟩,.string ⟨#[]⟩,.bool false]);go_wp2_with fail;refine kq.mono ?_;rintro e w2 ⟨rfl,z2⟩;have y3:=Y2.out.under z2;have t0:=y3.blk.cell 0;have t6:=y3.blk.cell 8;have t1:=y3.blk.lt;clear u0;have u0:=(y3.pk [1]).blk.cell 0;have u1:=(y3.pk [1]).blk.lt;have V4:=Kd ((y3.alloc 3 #[.int .i64 2000]).pk [2]);clear kq z2 Y2 y3 s0 s1 s2 s3 s4 s5 s6 s7 s8;generalize v3.heap.size=gb at t0 t1 t6 ⊢;go_wp2;clear t0 t1 t6 u0 u1;obtain⟨v4,hv⟩:∃ W,w2.alloc (.cells #[.int .i64 2000] 3)=W:=⟨_,rfl⟩;rw[hv] at V4 ⊢;clear hv;have u0:=V4.out.blk.cell 0;rw[rounds_succ];have V5:=Kd V4.out.below;clear u0 V4;go_wp2;go_ret2;exact⟨rfl,V5.out⟩
def exS:List Zy:=[(Qq,1,0,0),(Qo,1,1,0)]
theorem W8 {w:World} {F:Nat→Prop} {A:Option Addr} (h:Z9 w F A (exS.flatMap Wm)):∃ b off,A=some ⟨b,off,none⟩∧F b∧b<w.heap.size∧w.cell? ⟨b,off,none⟩=some (.string ⟨Qq.toArray⟩)∧w.cell? ⟨b,off+1,none⟩=some (.int .i64 1)∧w.cell? ⟨b,off+2,none⟩=some (.int .i64 0)∧w.cell? ⟨b,off+3,none⟩=some (.int .i64 0)∧w.cell? ⟨b,off+4,none⟩=some (.string ⟨Qo.toArray⟩)∧w.cell? ⟨b,off+5,none⟩=some (.int .i64 1)∧w.cell? ⟨b,off+6,none⟩=some (.int .i64 1)∧w.cell? ⟨b,off+7,none⟩=some (.int .i64 0):=by
 rcases h with h|⟨b,off,e,hF,hb,hc⟩
 ·cases h
 ·exact⟨b,off,e,hF,hb,hc 0 (by decide),hc 1 (by decide),hc 2 (by decide),hc 3 (by decide),hc 4 (by decide),hc 5 (by decide),hc 6 (by decide),hc 7 (by decide)⟩
theorem dec1_spec (p q:Tm.Qk) (a b c:Int) (g:Nat) (w:World) (hg:w.cell? ⟨g,0,none⟩=some (.string ⟨q.toArray⟩)):
 Calls prog 130 #[.agg #[.string ⟨p.toArray⟩,.int .i64 a,.int .i64 b,.int .i64 c],.pointer (some ⟨g,0,none⟩)] w fun e w'=>e=.returned (.bool (p==q))∧Below w.heap.size w w':=by
 have hl:=World.block_lt_of_cell? w _ hg;have z:=b1 w (.cells #[.string ⟨p.toArray⟩,.int .i64 a,.int .i64 b,.int .i64 c] 38);have Z:=Kd z;clear z;go_enter func130,ntmps130;go_wp2;go_ret;exact⟨rfl,Z.out⟩
theorem dec2_spec (p q:Tm.Qk) (a b c:Int) (g:Nat) (w:World) (hg:w.cell? ⟨g,0,none⟩=some (.string ⟨q.toArray⟩)):
 Calls prog 132 #[.agg #[.string ⟨p.toArray⟩,.int .i64 a,.int .i64 b,.int .i64 c],.pointer (some ⟨g,0,none⟩)] w fun e w'=>e=.returned (.bool (p==q))∧Below w.heap.size w w':=by
 have hl:=World.block_lt_of_cell? w _ hg;have z:=b1 w (.cells #[.string ⟨p.toArray⟩,.int .i64 a,.int .i64 b,.int .i64 c] 38);have Z:=Kd z;clear z;go_enter func132,ntmps132;go_wp2;go_ret;exact⟨rfl,Z.out⟩
theorem Dq (B:List Zy) (bA:Option Addr) (bC g:Nat) (q:Tm.Qk) (G:Nat→Prop) (w:World) (hr:Z9 w G bA (B.flatMap Wm)) (hl:B.length≤maxLen) (hg:w.cell? ⟨g,0,none⟩=some (.string ⟨q.toArray⟩)):
 Calls prog 129 #[.slice bA B.length bC,.func (.func 130) #[] #[.pointer (some ⟨g,0,none⟩)]] w fun e w'=>e=.returned (.bool (B.any fun s=>s.1==q))∧Below w.heap.size w w':=by
 refine(Oe 130 #[.pointer (some ⟨g,0,none⟩)] (enters_of func130 (by kernel_rfl) rfl) bA B.length bC (fun j=>.string ⟨(sD B j).1.toArray⟩) (fun j=>.int .i64 (sD B j).2.1) (fun j=>.int .i64 (sD B j).2.2.1) (fun j=>.int .i64 (sD B j).2.2.2) (fun j=>(sD B j).1==q) w hl hr.sels (fun j W _ hb=>dec1_spec _ q _ _ _ g W ((hb.cell (World.block_lt_of_cell? w _ hg)).trans hg))).mono ?_;rintro e w' ⟨b,rfl,hb,ha⟩
 rw[ha.list (q:=fun s:Zy=>s.1==q) fun j hj=>by
  unfold sD
  rw[List.getD_eq_getElem?_getD,List.getElem?_eq_getElem hj,Option.getD_some]]
 exact⟨rfl,hb⟩
theorem Iy (B:List Zy) (bA:Option Addr) (bC g k:Nat) (q:Tm.Qk) (G:Nat→Prop) (w:World) (hr:Z9 w G bA (B.flatMap Wm)) (hl:B.length≤maxLen) (hg:w.cell? ⟨g,0,none⟩=some (.string ⟨q.toArray⟩)) (hk:k<B.length) (h1:(sD B k).1=q) (h2:∀ i,i<B.length→(sD B i).1=q→i=k):
 Calls prog 131 #[.slice bA B.length bC,.func (.func 132) #[] #[.pointer (some ⟨g,0,none⟩)]] w fun e w'=>e=.returned (.int .i64 (k:Int))∧Below w.heap.size w w':=by
 refine(Eu 132 #[.pointer (some ⟨g,0,none⟩)] (enters_of func132 (by kernel_rfl) rfl) bA B.length bC (fun j=>.string ⟨(sD B j).1.toArray⟩) (fun j=>.int .i64 (sD B j).2.1) (fun j=>.int .i64 (sD B j).2.2.1) (fun j=>.int .i64 (sD B j).2.2.2) (fun j=>(sD B j).1==q) w hl hr.sels (fun j W _ hb=>dec2_spec _ q _ _ _ g W ((hb.cell (World.block_lt_of_cell? w _ hg)).trans hg))).mono ?_;rintro e w' ⟨j,rfl,hb,hj⟩;rcases hj with⟨rfl,hn⟩|⟨i,hi,rfl,hp,-⟩
 ·have:=hn k hk
  dsimp only at this;rw[h1,beq_self_eq_true] at this
  cases this
 ·rw[h2 i hi (eq_of_beq hp)]
  exact⟨rfl,hb⟩
theorem Rt (gc b3 b4 b5 lo:Nat) (kA:Option Addr) (kC:Nat) (bv nv:Value) (p:Tm.Qk) (m:Int) (rA:Option Addr) (rN rC:Nat) (w0 w:World) (X:Q3)
 (h:St lo w0 w [Qa b5 4 #[.bool true],Qa b4 49 #[.slice kA 0 kC],Qa b3 158 #[.pointer (some ⟨gc,0,none⟩)]   ,X])
 (ks:∀ W,Below w.heap.size w W→Calls prog 81 #[.pointer (some ⟨gc,0,none⟩),.slice kA 0 kC,bv,nv,.agg #[.string ⟨p.toArray⟩,.int .i64 1,.int .i64 m,.int .i64 0,.slice rA rN rC,.string ⟨#[]⟩,.string ⟨#[]⟩,.string ⟨#[]⟩,.bool false]] W fun e w'=>e=.returned (.tuple #[.slice kA 0 kC,.bool true])∧Below W.heap.size W w'):
 Calls prog 80 #[bv,nv,.agg #[.string ⟨p.toArray⟩,.int .i64 1,.int .i64 m,.int .i64 0,.slice rA rN rC,.string ⟨#[]⟩,.string ⟨#[]⟩,.string ⟨#[]⟩,.bool false],.pointer (some ⟨b3,0,none⟩),.pointer (some ⟨b4,0,none⟩),.pointer (some ⟨b5,0,none⟩)] w fun e w'=>e=.returned (.tuple #[])∧St lo w0 w' [Qa b5 4 #[.bool true],Qa b4 49 #[.slice kA 0 kC],Qa b3 158 #[.pointer (some ⟨gc,0,none⟩)],X]:=by
 have y1:=h.alloc 46 #[.string ⟨p.toArray⟩,.int .i64 1,.int .i64 m,.int .i64 0,.slice rA rN rC,.string ⟨#[]⟩,.string ⟨#[]⟩,.string ⟨#[]⟩,.bool false];have k:=ks _ (b1 w (.cells #[.string ⟨p.toArray⟩,.int .i64 1,.int .i64 m,.int .i64 0,.slice rA rN rC,.string ⟨#[]⟩,.string ⟨#[]⟩,.string ⟨#[]⟩,.bool false] 46));obtain⟨W0,hW0⟩:∃ W,w.alloc (.cells #[.string ⟨p.toArray⟩,.int .i64 1,.int .i64 m,.int .i64 0,.slice rA rN rC,.string ⟨#[]⟩,.string ⟨#[]⟩,.string ⟨#[]⟩,.bool false] 46)=W:=⟨_,rfl⟩;rw[hW0] at y1 k;have x3:=(y1.pk [3]).blk.cell 0;have x4:=(y1.pk [2]).blk.cell 0;obtain⟨t0,t1,t2,t3,t4,t5,t6,t7,t8⟩:=Ip y1.blk;have Y1:=Kd y1;clear h ks y1;go_enter func80,ntmps80;go_wp2_with fail;refine k.mono ?_;rintro e w1 ⟨rfl,z1⟩;have y2:=Y1.out.under z1;clear k x3 x4 t0 t1 t2 t3 t4 t5 t6 t7 t8 z1 Y1 hW0;have t6:=y2.blk.cell 8;have x5:=(y2.pk [1]).blk.cell 0;have f5:=(y2.pk [1]).blk.frozen 0;have x4:=(y2.pk [2]).blk.cell 0;have f4:=(y2.pk [2]).blk.frozen 0;have y3:=(((y2.tail.set_ 0 (.bool true)).swap).set_ 0 (.slice kA 0 kC)).swap;simp only[List.setIfInBounds_toArray,List.set_cons_zero] at y3;have n4:=y2.tail.ne2;have Y3:=Kd y3;clear y2 y3;go_wp2;exact bodyPost_end (results_none rfl _ _ _) rfl ⟨rfl,Y3.out⟩
theorem neq_inf (w:World):(binOp .neq 152 (.agg #[.int .i64 1,.string ⟨#[]⟩,.int .i64 0,.int .i64 0,.int .i64 0,.int .i64 0]) (.agg #[.int .i64 1,.string ⟨#[]⟩,.int .i64 0,.int .i64 0,.int .i64 0,.int .i64 0])).run prog w=.ok (.bool false) w:=by kernel_rfl
theorem guard_inf:prog.eqGuardType prog.depth 152=false:=by kernel_rfl
theorem ix_kinds (w:World):(Instr.index 295 (.agg #[.func (.func 233) #[] #[],.func (.func 234) #[] #[],.func (.func 235) #[] #[],.func (.func 236) #[] #[],.func (.func 237) #[] #[],.func (.func 238) #[] #[],.func (.func 239) #[] #[],.func (.func 240) #[] #[]]) (.int .i64 1)).run prog w=.ok (.agg #[.func (.func 235) #[] #[],.func (.func 236) #[] #[]]) w:=by kernel_rfl
theorem add_ex (A qA iA rA:Option Addr) (c qC iN iC rC g lo:Nat) (F:Nat→Prop) (w0 w:World) (X:Q3) (h:Qx w0 F (.slice A 4 c) (Jl (.slice qA 1 qC))) (hF:∀ k,F k→k<lo)
 (y:St lo w0 w [Qa g 219 #[.slice A 4 c,.slice iA iN iC,.slice rA 1 rC,.slice none 0 0],X]):
 Calls prog 124 #[.pointer (some ⟨g,0,none⟩),.agg #[.int .i64 1,.string ⟨Qq.toArray⟩,.int .i64 0,.int .i64 0,.int .i64 0,.int .i64 0]] w fun e w'=>∃ dA dC,e=.returned (.bool true)∧St lo w0 w' [Qa g 219 #[.slice A 4 c,.slice iA iN iC,.slice rA 1 rC,.slice dA 1 dC],X]:=by
 have y0:=y.alloc 152 #[.int .i64 1,.string ⟨Qq.toArray⟩,.int .i64 0,.int .i64 0,.int .i64 0,.int .i64 0];have z0:=b1 w (.cells #[.int .i64 1,.string ⟨Qq.toArray⟩,.int .i64 0,.int .i64 0,.int .i64 0,.int .i64 0] 152);obtain⟨W0,hW0⟩:∃ W,w.alloc (.cells #[.int .i64 1,.string ⟨Qq.toArray⟩,.int .i64 0,.int .i64 0,.int .i64 0,.int .i64 0] 152)=W:=⟨_,rfl⟩;rw[hW0] at y0 z0;have x0:=y0.blk.cell 0;have Y0:=Kd y0;have HH:=Kd2 h hF;clear h hF y y0 z0;go_enter func124,ntmps124;go_wp2_with fail;clear hW0;generalize w.heap.size=gi at Y0 x0 ⊢;have hS:∀ W,St lo w0 W [Qa gi 152 #[.int .i64 1,.string ⟨Qq.toArray⟩,.int .i64 0,.int .i64 0,.int .i64 0,.int .i64 0]]→W.cell? ⟨gi,0,none⟩=some (.int .i64 1):=fun W y=>y.blk.cell 0;have HS:=Kd hS;have hix:=ix_kinds;clear hS x0;apply region_one (fun (pk:Nat) w'=>St lo w0 w' [Qa pk 294 #[.func (.func 235) #[] #[],.func (.func 236) #[] #[]],Qa gi 152 #[.int .i64 1,.string ⟨Qq.toArray⟩,.int .i64 0,.int .i64 0,.int .i64 0,.int .i64 0],Qa g 219 #[.slice A 4 c,.slice iA iN iC,.slice rA 1 rC,.slice none 0 0],X])
 case h=>
  refine wp_region_noPanic ?_;refine wp_region_held_drew (S:=(fun W'=>W'.cell? ⟨gi,0,none⟩=some (.int .i64 1))) (by kernel_rfl) ?_ (fun hH0=>?_)
  ·exact HS.out _ (Y0.out.drew.pk [0])
  refine tk 1 17 hH0 ?_;refine tk 2 18 hH0 ?_;refine Zk [0,4] ?_;refine ad 16 (fun K hK=>?_) ?_
  go_simp;(
   with_reducible refine(Td W0.drew).mono ?_
   rintro e w4 ⟨rfl,z4⟩
   have y5:=Y0.out.drew.under z4);go_wp2_with fail
  refine hK.out _ _ ?_ (fun hH1=>?_)
  ·exact HS.out _ (y5.pk [0])
  clear hK K hH0
  try simp only[pu]
  refine tk 3 19 hH1 ?_;refine Zk [4] ?_;refine an 5 fun K hK=>?_;go_simp;refine hK.out _ _ ?_ (fun hH2=>?_)
  ·exact HS.out _ ((y5.alloc0 _).pk [0])
  clear hK K hH1
  try simp only[pu]
  refine Zk [5] ?_;refine az fun K hK=>?_;go_simp;refine hK.out _ _ ?_ (fun hH3=>?_)
  ·exact HS.out _ ((y5.alloc0 _).pk [0])
  clear hK K hH2
  try simp only[pu]
  refine dn ?_ _;rotate_left 1;refine an 5 fun K hK=>?_;go_simp;refine hK.out _ _ ?_ (fun hH4=>?_)
  ·exact HS.out _ ((Y0.out.drew.alloc0 _).pk [0])
  clear hK K hH0
  try simp only[pu]
  refine Zk [0] ?_;refine an 16 fun K hK=>?_
  go_simp;(
   with_reducible refine(Td (W0.alloc (.cells #[.nilFunc,.nilFunc] 294)).drew).mono ?_
   rintro e w4 ⟨rfl,z4⟩;have y6:=(Y0.out.alloc 294 #[.nilFunc,.nilFunc]).drew.under z4;have q0:=y6.blk.cell 0;have q1:=y6.blk.cell 1;have f0:=y6.blk.frozen 0;have f1:=y6.blk.frozen 1
   have y7:=(y6.set_ 0 (.func (.func 235) #[] #[])).set_ 1 (.func (.func 236) #[] #[]));go_wp2_with fail
  refine hK.out _ _ ?_ (fun hH5=>?_)
  ·exact HS.out _ (y6.pk [1])
  clear hK K hH4
  try simp only[pu]
  refine tk 3 19 hH5 ?_;refine Zk [5] ?_;refine az fun K hK=>?_;go_simp;refine hK.out _ _ ?_ (fun hH6=>?_)
  ·exact HS.out _ (y7.pk [1])
  clear hK K hH5
  try simp only[pu]
  refine dn ?_ _
  all_goals(refine NoPanic.normal ?_)
  all_goals
   first
    | (have yF:=y5.alloc 294 #[.func (.func 235) #[] #[],.func (.func 236) #[] #[]]
       obtain⟨pG,hpG⟩:∃ q,w4.heap.size=q:=⟨_,rfl⟩;rw[hpG] at yF ⊢
       exact⟨rfl,pG,rfl,yF⟩)
    | (simp only[List.setIfInBounds_toArray,List.set_cons_zero,List.set_cons_succ] at y7
       obtain⟨pG,hpG⟩:∃ q,W0.heap.size=q:=⟨_,rfl⟩;rw[hpG] at y7 ⊢
       exact⟨rfl,pG,rfl,y7⟩)
 case k=>
  intro pk w2 y2;have bh:=y2.below;have Y2:=Kd y2;have hS2:∀ W,Below w2.heap.size w2 W→W.cell? ⟨pk,0,none⟩=some (.func (.func 235) #[] #[])∧W.cell? ⟨gi,0,none⟩=some (.int .i64 1)∧W.cell? ⟨gi,1,none⟩=some (.string ⟨Qq.toArray⟩)∧W.cell? ⟨gi,2,none⟩=some (.int .i64 0)∧W.cell? ⟨gi,3,none⟩=some (.int .i64 0)∧W.cell? ⟨gi,4,none⟩=some (.int .i64 0)∧W.cell? ⟨gi,5,none⟩=some (.int .i64 0):=fun W z=>by have y:=Y2.out.under z;have b:=(y.pk [1]).blk;exact⟨y.blk.cell 0,b.cell 0,b.cell 1,b.cell 2,b.cell 3,b.cell 4,b.cell 5⟩
  have HS2:=Kd hS2;have hne:=neq_inf;have hgd:=guard_inf;have r1:Below w2.heap.size w2 w2:=Below.refl _ _;clear hS2 hix HS y2 bh;go_wp2_with fail;refine wp_region_noPanic ?_;refine wp_region_held_drew (S:=(fun W=>W.cell? ⟨pk,0,none⟩=some (.func (.func 235) #[] #[])∧W.cell? ⟨gi,0,none⟩=some (.int .i64 1)∧W.cell? ⟨gi,1,none⟩=some (.string ⟨Qq.toArray⟩)∧W.cell? ⟨gi,2,none⟩=some (.int .i64 0)∧W.cell? ⟨gi,3,none⟩=some (.int .i64 0)∧W.cell? ⟨gi,4,none⟩=some (.int .i64 0)∧W.cell? ⟨gi,5,none⟩=some (.int .i64 0))) (by kernel_rfl) ?_ (fun hH0=>?_)
  ·exact HS2.out _ r1.drew
  refine tk 0 20 hH0 ?_;refine tk 1 21 hH0 ?_;refine tk 2 22 hH0 ?_;refine tk 4 24 hH0 ?_;refine tk 5 25 hH0 ?_;refine tk 6 26 hH0 ?_;refine Zk [3] ?_;refine an 23 fun K hK=>?_
  go_simp;(
   with_reducible refine(Cw 1 Qq 0 0 0 0 w2.drew).mono ?_
   rintro e w4 ⟨rfl,z4⟩
   have r2:Below w2.heap.size w2 w4:=Q0 r1.drew z4);go_wp2_with fail
  refine hK.out _ _ ?_ (fun hH1=>?_)
  ·exact HS2.out _ r2
  clear hK K hH0
  try simp only[pu]
  refine tk 7 27 hH1 ?_;refine dn ?_ _
  all_goals(refine NoPanic.normal ?_)
  all_goals
   have y4:=Y2.out.under r2;have bi:=(y4.pk [1]).blk;have q1:=y4.blk.cell 1;have i0:=bi.cell 0;have i1:=bi.cell 1;have i2:=bi.cell 2;have i3:=bi.cell 3;have i4:=bi.cell 4;have i5:=bi.cell 5;have bg:=(y4.pk [2]).blk;have kr:=Cb A qA c qC g F w4 (HH.out.1.keep (Qm.under y4.below HH.out.2)) bg.lt (bg.cell 0);have Y4:=Kd y4;clear r1 r2 z4 HS2 hne hgd Y2 y4 bi bg;go_wp2_with fail;refine kr.mono ?_;rintro e w5 ⟨dA,dC,rfl,z5⟩;have y5:=(Y4.out.under z5).pk [2,3];have g3:=y5.blk.cell 3;have y6:=y5.alloc 192 #[.slice dA 2 dC];have HRD:=Kd y6.blkRd;have Y6:=Kd (y6.tail.quNil 1 192);have hone:∀ u∈([.slice dA 2 dC]:List Value),u.oneCell'=true:=fun u hu=>by obtain rfl:=List.mem_singleton.1 hu;rfl
   clear kr z5 y5 y6 Y4 q1 i0 i1 i2 i3 i4 i5;have n1:0+1≤maxLen :=(by decide);have n2:(0+1)*24≤140737488355328 :=(by decide);go_wp2_with (at_builtin;go_must (refine Jw 116 Y6.out underlying116 C5 rfl HRD.out rfl (by decide) hone n1 n2 rfl _ _ rfl rfl rfl ?_);intro A5 c5 w6 h6;have y7:=h6.tail;have g3':=y7.blk.cell 3;have f3':=y7.blk.frozen 3);have y8:=y7.set_ 3 (.slice A5 1 c5);simp only[List.setIfInBounds_toArray,List.set_cons_zero,List.set_cons_succ] at y8;have Y8:=Kd y8;clear h6 Y6 HRD hone g3 y7 y8;go_wp2;go_ret;exact⟨_,_,rfl,Y8.out⟩
theorem M8 (A qA iA rA jA:Option Addr) (c qC iN iC rC jC:Nat) (F:Nat→Prop) (w:World) (h:Qx w F (.slice A 4 c) (Jl (.slice qA 1 qC))) (hr:Qt w F (.slice rA 1 rC) Bk) (hj:Z9 w F jA (exI.flatMap Xj)) (hg:Ji w):
 Calls prog 76 #[.agg #[.slice A 4 c,.slice iA iN iC],.slice rA 1 rC,.slice jA 1 jC] w fun e w'=>∃ g dA dC,e=.returned (.tuple #[.pointer (some ⟨g,0,none⟩),.int .i64 0])∧St w.heap.size w w' [Qa g 219 #[.slice A 4 c,.slice iA iN iC,.slice rA 1 rC,.slice dA 1 dC]]:=by
 have y0:=(St.nil w).alloc 25 #[.slice A 4 c,.slice iA iN iC];obtain⟨W0,hW0⟩:∃ W,w.alloc (.cells #[.slice A 4 c,.slice iA iN iC] 25)=W:=⟨_,rfl⟩;rw[hW0] at y0;have k1:=Vk _ _ (.slice iA iN iC) F W0 (h.below y0.below) (W6 _) rfl (hg.below y0.below);rw[Gv] at k1;have k2:∀ W,Below w.heap.size w W→Calls prog 22 #[.slice rA 1 rC] W fun e w'=>e=.returned (.int .i64 0)∧Below W.heap.size W w':=fun W hW=>by have:=Yz Bk _ F W (hr.below hW) Gw (hg.below hW);rw[show U5 Bk=0 by kernel_rfl] at this;exact this
 have x0:=y0.blk.cell 0;have x1:=y0.blk.cell 1;have Y0:=Kd y0;have HH:=Kd3 h.ltR hj k2;clear h hr hj hg y0 k2;go_enter func76,ntmps76;go_wp2_with fail;refine k1.mono ?_;rintro e w1 ⟨rfl,z1⟩;have y1:=Y0.out.under z1;have k2:=HH.out.2.2 w1 y1.below;have Y1:=Kd y1;clear k1 x0 x1 z1 y1 Y0 hW0;go_wp2_with fail;refine k2.mono ?_;rintro e w2 ⟨rfl,z2⟩;have y2:=Y1.out.under z2;have x0:=y2.blk.cell 0;have x1:=y2.blk.cell 1;have xl:=y2.blk.lt;have Y3:=Kd (y2.alloc 219 #[.slice A 4 c,.slice iA iN iC,.slice rA 1 rC,.slice none 0 0]);clear k2 z2 y2 Y1;go_wp2;obtain⟨W3,hW3⟩:∃ W,w2.alloc (.cells #[.slice A 4 c,.slice iA iN iC,.slice rA 1 rC,.slice none 0 0] 219)=W:=⟨_,rfl⟩;obtain⟨gc,hgc⟩:∃ g,w2.heap.size=g:=⟨_,rfl⟩;rw[hW3,hgc] at Y3 ⊢;clear hW3 hgc x0 x1 xl;refine wp_loop_rounds 2 ?_;rw[rounds_succ]
 obtain⟨b,off,rfl,c0,c1,c2,c3,c4,c5⟩:∃ b off,jA=some ⟨b,off,none⟩∧(W3.cell? ⟨b,off,none⟩=some (.int .i64 1)∧W3.cell? ⟨b,off+1,none⟩=some (.string ⟨Qq.toArray⟩)∧W3.cell? ⟨b,off+2,none⟩=some (.int .i64 0)∧W3.cell? ⟨b,off+3,none⟩=some (.int .i64 0)∧W3.cell? ⟨b,off+4,none⟩=some (.int .i64 0)∧W3.cell? ⟨b,off+5,none⟩=some (.int .i64 0)):=by
  rcases HH.out.2.1.keep (Qm.of_below Y3.out.below) with h|⟨b,off,e,-,-,hc⟩
  ·cases h
  ·exact⟨b,off,e,hc 0 (by decide),hc 1 (by decide),hc 2 (by decide),hc 3 (by decide),hc 4 (by decide),hc 5 (by decide)⟩
 have ka:=add_ex A qA iA rA c qC iN iC rC gc w.heap.size _ w (W3.alloc (.cells #[.int .i64 1,.string ⟨Qq.toArray⟩,.int .i64 0,.int .i64 0,.int .i64 0,.int .i64 0] 152)) _ HH.out.1 (fun k hk=>hk.2) ((Y3.out.alloc 152 #[.int .i64 1,.string ⟨Qq.toArray⟩,.int .i64 0,.int .i64 0,.int .i64 0,.int .i64 0]).pk [1,2]);clear Y3;go_wp2_with fail;refine ka.mono ?_;rintro e w4 ⟨dA,dC,rfl,y4⟩;have Y4:=Kd (y4.pk [0]);clear ka y4 c0 c1 c2 c3 c4 c5;go_wp2;rw[rounds_succ];go_wp2;go_ret2;exact⟨gc,dA,dC,rfl,Y4.out⟩
end Go.Proofs.YtiefajiebebgoaaGreatDoor
