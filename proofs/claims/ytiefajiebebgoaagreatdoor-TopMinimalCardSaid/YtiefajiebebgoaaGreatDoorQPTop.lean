/-
  TopMinimal: for every index and every list of requirements the law returns true,and each argument reads afterwards as it read before;the statement is the tied card.
  Conditions: those of the given row (the listed package variables start as the program's text lays them,which the card ties).
-/
import Derived.Test.YtiefajiebebgoaaGreatDoorQPj
import Derived.Test.YtiefajiebebgoaaGreatDoorQUdZ
import Derived.Test.YtiefajiebebgoaaGreatDoorQPg
import Derived.Test.YtiefajiebebgoaaGreatDoorQPb
import Derived.Test.YtiefajiebebgoaaGreatDoorQTopC
import Derived.Test.YtiefajiebebgoaaGreatDoorCards
import Derived.Test.YtiefajiebebgoaaGreatDoorTie
import Derived.LaidMore
import Derived.Lay
import Derived.SevenTiedAt
import Derived.Stop.Joined
set_option maxRecDepth 100000
set_option maxHeartbeats 40000000
open Go.Proofs.Tryz
namespace Go.Proofs.YtiefajiebebgoaaGreatDoor
set_option linter.unusedVariables false
open Go.ChangeShapes hiding strs
open Go.WideShapes Go.ChangeAt Go.RowKit
namespace pTopMinimal
theorem idxT:Rj prog 3 9 4 36 79 41 43 26 46 22 402 23 25 where
 i:=underlying3
 t:=underlying9
 b:=underlying4
 ci:=by kernel_rfl
 ct:=by kernel_rfl
 cb:=by kernel_rfl
 v:=⟨_,underlying36,by kernel_rfl,rfl⟩
 cv:=by kernel_rfl
 p:=⟨_,underlying79,by kernel_rfl,rfl⟩
 cp:=by kernel_rfl
 S:=underlying41
 cS:=by kernel_rfl
 q:=⟨_,underlying43,by kernel_rfl,rfl⟩
 cq:=by kernel_rfl
 Q:=underlying26
 cQ:=by kernel_rfl
 l:=⟨_,underlying46,by kernel_rfl,rfl⟩
 cl:=by kernel_rfl
 L:=underlying22
 cL:=by kernel_rfl
 N:=underlying23
 cN:=by kernel_rfl
 x:=⟨_,underlying25,by kernel_rfl,rfl⟩
theorem Ie:decide (0<prog.globals.size)=true:=by kernel_rfl
theorem row0:(((begin prog (fun _ _=>0) default).world.heap[0]?).bind Obj.row?)=some (#[.int .i64 0],3):=by kernel_rfl
theorem build0:prog.buildable 3=true:=by kernel_rfl
theorem types0:prog.cellTypes prog.depth 3=some [3]:=by kernel_rfl
theorem cell_int {P:Program} {w:World} {r:Reach} {base:Nat} {t:TypeId} {v:Value} (h:P.underlying t=some (.int .i64)) (hc:Cell.ok P w r base t v):∃ m,v=.int .i64 m:=by
 unfold Cell.ok at hc;rw[h] at hc
 cases v<;>simp only at hc
 case int k m=>exact⟨m,by rw[hc.1]⟩
theorem glob_of {W:World} (h:W.ShapedOpen prog):Ji W:=by
 obtain⟨cs,e1,e2,e3⟩:=h.1 0 _ _ (of_decide_eq_true Ie) row0;obtain⟨ts,h1,-,h3⟩:=e3 build0;obtain rfl:=Option.some.inj (types0.symm.trans h1);have hs:0<cs.size:=by rw[e2];decide
 obtain⟨u,hu,hc⟩:=h3 0 cs[0] (Array.getElem?_eq_getElem hs);obtain rfl:3=u:=Option.some.inj hu;obtain⟨m,hm⟩:=cell_int underlying3 hc;have hcell:W.cell? ⟨0,0,none⟩=some cs[0]:=by unfold World.cell?;rw[e1];exact Array.getElem?_eq_getElem hs
 rw[hm] at hcell;exact⟨m,hcell⟩
theorem contract (H:Type) (enc:TypeId×Value→H) (W:World) (base:Nat) (args:Array Value) (ds gs:List (DataW H)) (before:List MemPlace)
 (hval:∀(j:Nat) t v,Tryz.f3.params[j]?=some t→args[j]?=some v→Value.okWide prog W .any base t v)
 (hW:DataW.Whole enc prog Tryz.f3.params.toList Rows.topMinimalSpec.vars false W args.toList ds gs before) (hg:Ji W):
 Calls prog 3 args W fun e W'=>∃ v,e=.returned v∧Rows.topMinimalSpec.post enc prog Tryz.f3 false true false false W args v W':=by
 have hW':=hW;obtain⟨p,q,hA0,hV,rfl,hfz,hnd⟩:=hW;have hA:DataW.TrodAll enc prog W 0 (fun _=>true) true Tryz.f3.params.toList args.toList ds p:=hA0;rw[Tryz.params3] at hA hval;obtain⟨v0,vs0,d0,ds0,p0,q0,hargs,rfl,rfl,k0,r0⟩:=trodAll_cons hA;obtain⟨v1,vs1,d1,ds1,p1,q1,rfl,rfl,rfl,k1,r1⟩:=trodAll_cons r0;obtain⟨rfl,rfl,rfl⟩:=trodAll_nil r1;obtain rfl:args=#[v0,v1]:=by cases args;simp_all
 obtain⟨rfl,rfl⟩:=trodVars_none hV;obtain⟨X,u,iA,iN,iC,rfl,hX⟩:=open_idx idxT (hval 0 25 v0 rfl rfl) k0;obtain⟨L,hL⟩:=open_reqs idxT (hval 1 26 v1 rfl rfl) k1;refine(top_walk kaw_ex X L u v1 iA iN iC (fun _=>True) W hX hL hg).mono fun e W' ⟨he,bel⟩=>?_;subst he;exact⟨_,rfl,law_post laid_out (by kernel_rfl) rfl underlying4 rfl hW' rfl rfl rfl bel⟩
theorem lifted (os:Os) (started:os.Started) (H:Type) (enc:TypeId×Value→H):
 ReturnsInHanded {} Tryz.checked os 3 .any (fun w args=>(Rows.topMinimalSpec.pre enc prog Tryz.f3 Rows.topMinimalRow.domain false w args∧laidMetH prog Rows.topMinimalRow.laid w)∧sizedMet enc prog Tryz.f3 (OpenSpec.ofChange Rows.topMinimalSpec) false w args)
  (Rows.topMinimalSpec.post enc prog Tryz.f3 false true false false):=by
 refine returnsInHanded_of_calls own_knob started (by kernel_rfl)
  (ChangeSpec.witness_shaped (enc:=enc) (C:=Tryz.checked) (os:=os) (X:=fun w _=>laidMetH prog Rows.topMinimalRow.laid w) false (World.laidAll prog os Rows.topMinimalRow.laid) #[.agg #[.slice none 0 0,.slice none 0 0],.slice none 0 0] 8 (World.laidAll_os _ _ _)
    (World.shaped_of_ZipB (by kernel_rfl) (by kernel_rfl)) (by kernel_rfl) (by kernel_rfl) (by kernel_rfl)
    (by rw[MakeChecks.laidMetH_plain _ _ _ (by kernel_rfl)];exact laidMet_laidAll _ (by kernel_rfl) (by kernel_rfl))) ?_
 intro w tape i _ hsh _ hok hpre hholds;have hg:=glob_of hsh;obtain⟨_,_,_,fn',hfn',_,_,_,_,hval⟩:=hok;have e:fn'=Tryz.f3:=Option.some.inj (hfn'.symm.trans func3);subst e;obtain⟨⟨⟨ds,gs,before,hw,hc⟩,hx⟩,hz⟩:=hpre;have hw':=DataW.Whole.of_heap (w':=w.forCall tape i) (by rfl) hw;refine(contract H enc (w.forCall tape i) w.heap.size i.args ds gs before hval hw' hg).mono fun e W' ⟨v,he,hp⟩=>?_;subst he;exact ChangeSpec.post_blind hp
theorem holds:Rows.TopMinimalSaid:=
 OpenClaim.holds_of_wide 3 Tryz.f3 rfl rfl rfl rfl rfl rfl rfl ⟨rfl,rfl,rfl,rfl,rfl⟩ rfl rfl rfl rfl rfl (by as_aux_lemma=>kernel_rfl) func3 closedT
  (of_decide_eq_true (by as_aux_lemma=>kernel_rfl)) (by unfold Func.isWrapper;first|(rw[if_pos (by as_aux_lemma=>decide +kernel)];kernel_rfl)|(rw[if_neg (by as_aux_lemma=>decide +kernel)];exact⟨rfl,rfl⟩))
  (fun os started H enc _=>lifted os started H enc)
theorem proved:Rows.TopMinimalCardSaid:=
 Claim7.holds_tied_plain_at .later [] [.data,.pinned] true (true, "b6dfd709c32b61d07c8064fe1a2a31aaa937a88d804a2136dc55605e98f9560d") false holds (fun _ h=>by cases h) (by as_aux_lemma=>kernel_rfl) (fun _ h=>by cases h) topMinimal_row_tie rfl ⟨rfl,rfl⟩ (by as_aux_lemma=>kernel_rfl) rfl
  (fun f fn hf hfn=>by
    obtain rfl:f=3:=Option.some.inj ((show prog.funcNamed Rows.topMinimalRow.func=some 3 by as_aux_lemma=>kernel_rfl).symm.trans hf) |>.symm;obtain rfl:fn=Tryz.f3:=(Option.some.inj (func3.symm.trans hfn)).symm
    exact⟨by as_aux_lemma=>kernel_rfl,fun j t ht=>by
     rw[Tryz.params3] at ht;have hm:t∈[25,26] :=(by simpa using Array.mem_of_getElem? ht);have hall:([25,26].all fun u=>!prog.wantsStandIn u)=true:=by as_aux_lemma=>kernel_rfl
     exact(show prog.wantsStandIn t=false by simpa using List.all_eq_true.1 hall t hm)⟩)
  (by as_aux_lemma=>kernel_rfl)
end pTopMinimal
end Go.Proofs.YtiefajiebebgoaaGreatDoor
