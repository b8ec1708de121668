/- Lemmas and contracts on what the walks need, several small texts in one. Conditions: as each theorem states. -/
import Derived.Test.YtiefajiebebgoaaGreatDoorQHd
import Derived.Test.YtiefajiebebgoaaGreatDoorQPb
import Derived.Test.YtiefajiebebgoaaGreatDoorQPc
import Derived.Laws.StructEq
set_option maxRecDepth 20000
set_option maxHeartbeats 8000000
open Go.Proofs.Tryz
namespace Go.Proofs.YtiefajiebebgoaaGreatDoor
set_option linter.unusedVariables false
open Go.RowKit Go.Shelf
attribute [local go_sem] Oper.semAt_some
theorem Cy (s:Tm.Qk) (w:World) (hs:s.length≤4294967000) (hg:Ji w):Calls prog 119 #[.string ⟨s.toArray⟩] w fun e w'=>e=.returned (.bool (Uz s).isSome)∧Below w.heap.size w w':=by
 have k:=Ta s w hs hg;generalize Uz s=o at k ⊢
 cases o with
 |none =>unfold majV at k;go_enter func119,ntmps119;go_wp2_with fail;refine k.mono ?_;rintro e w' ⟨rfl,b⟩;have B:=Kd b;clear b k;go_wp2;go_ret;exact⟨rfl,B.out⟩
 |some v =>unfold majV at k;go_enter func119,ntmps119;go_wp2_with fail;refine k.mono ?_;rintro e w' ⟨rfl,b⟩;have B:=Kd b;clear b k;go_wp2;go_ret;exact⟨rfl,B.out⟩
theorem last_ok (s:Tm.Qk) (h:2≤(Wo s).length):∃ i:Nat,Lib.lastIndex s [47]=(i:Int)∧i≤s.length:=by
 obtain⟨-,hn,-⟩:=Bv s;have hc:¬ Lib.indexB ⟨s.toArray⟩ ⟨#[47]⟩ = -1:=fun e=>by have:=Lib.countB_miss _ _ e;omega
 rcases Lib.index_spec s [47] with⟨e,_⟩|⟨i,_,_,h1,_⟩
 ·exact absurd e hc
 ·have hr:i+1≤s.length:=by
   rcases Lib.occAt_room h1 with h|h
   ·exact h
   ·cases h
  have hl:([47]:List UInt8).length≤s.length:=by show 1≤s.length;omega
  unfold Lib.lastIndex;rw[if_pos hl];rcases Lib.lastOcc_spec s [47] (s.length-([47]:List UInt8).length+1) with⟨_,hno⟩|⟨j,hj,e,_⟩
  ·have:=hno i (by show i<s.length-1+1;omega)
   rw[h1] at this
   cases this
  ·exact⟨j,e,by have:j<s.length-1+1:=hj;omega⟩
theorem last_spec (s:Tm.Qk) (w:World) (hs:s.length≤4294967000):Calls prog 120 #[.string ⟨s.toArray⟩,.string ⟨#[47]⟩] w fun e w'=>e=.returned (.int .i64 (Lib.lastIndex s [47]))∧w'=w:=
 Any.strings_LastIndex Tryz.laysLastIndex ⟨s.toArray⟩ ⟨#[47]⟩ (by rw[Zf];omega) w
theorem Tb {s:Tm.Qk} {n:Nat} (h:Uz s=some n):2≤(Wo s).length:=by
 unfold Uz at h
 split at h
 ·cases h
 ·split at h
  ·cases h
  ·rename_i hh
   omega
theorem Xu (s:Tm.Qk) (w:World) (hs:s.length≤4294967000) (hg:Ji w):Calls prog 70 #[.string ⟨s.toArray⟩] w fun e w'=>
 (∃ nm:ByteArray,e=.returned (.tuple #[.string nm,.int .i64 ((Uz s).getD 0:Nat),.int .i64 (if (Uz s).isSome=true then 0 else 4)]))∧Below w.heap.size w w':=by
 have k:=Ta s w hs hg;have k2:=fun W hW=>Cy s W hs hW;have kl:=fun W=>last_spec s W hs;have hz:(⟨s.toArray⟩:ByteArray).size=s.length:=Zf s;have hlo:=fun n (h:Uz s=some n)=>last_ok s (Tb h);generalize Uz s=o at k k2 hlo ⊢;have HG:=Kd hg;clear hg
 cases o with
 | none=>
   unfold majV at k;go_enter func70,ntmps70;go_wp2_with fail;refine k.mono ?_;rintro e w1 ⟨rfl,b⟩;have g1:=HG.out.below b;have B:=Kd b;clear b k;go_wp2_with fail;refine(k2 w1 g1).mono ?_;rintro e w2 ⟨rfl,b⟩;have B2:=Kd (Q0 B.out b);clear b k2;go_wp2
   go_ret3
   exact⟨⟨_,rfl⟩,B2.out⟩
 | some v=>
   unfold majV at k;obtain⟨i,hi,hil⟩:=hlo v rfl;rw[hi] at kl;obtain⟨m,hm⟩:∃ m,s.length=m:=⟨_,rfl⟩;rw[hm] at hz hil hs;clear hm hi;have i0:(0:Int)≤(i:Int):=Int.natCast_nonneg _;have i1:(i:Int)≤(m:Int) :=(by omega);go_enter func70,ntmps70;go_wp2_with fail;refine k.mono ?_;rintro e w1 ⟨rfl,b⟩;have g1:=HG.out.below b;have B:=Kd b;clear b k;go_wp2_with fail;refine(k2 w1 g1).mono ?_;rintro e w2 ⟨rfl,b⟩;have B2:=Kd (Q0 B.out b);clear b k2;go_wp2_with fail;refine(kl w2).mono ?_;rintro e w3 ⟨rfl,rfl⟩;go_wp2
   go_ret3
   exact⟨⟨_,rfl⟩,B2.out⟩
theorem fields2 {l:List Field} {n0 n1:String} {t0 t1:TypeId} {o0 o1:Nat} (h:l.map (fun f=>(f.name,f.type,f.offset))=[(n0,t0,o0),(n1,t1,o1)]):∃ f0 f1:Field,l=[f0,f1]∧f0.name=n0∧f0.type=t0∧f0.offset=o0∧f1.name=n1∧f1.type=t1∧f1.offset=o1:=by
 match l,h with
 |[f0,f1],h =>simp at h;exact⟨f0,f1,rfl,h.1.1,h.1.2.1,h.1.2.2,h.2.1,h.2.2.1,h.2.2.2⟩
theorem fields3 {l:List Field} {n0 n1 n2:String} {t0 t1 t2:TypeId} {o0 o1 o2:Nat} (h:l.map (fun f=>(f.name,f.type,f.offset))=[(n0,t0,o0),(n1,t1,o1),(n2,t2,o2)]):∃ f0 f1 f2:Field,l=[f0,f1,f2]∧f0.name=n0∧f0.type=t0∧f0.offset=o0∧f1.name=n1∧f1.type=t1∧f1.offset=o1∧f2.name=n2∧f2.type=t2∧f2.offset=o2:=by
 match l,h with
 |[f0,f1,f2],h =>simp at h;exact⟨f0,f1,f2,rfl,h.1.1,h.1.2.1,h.1.2.2,h.2.1.1,h.2.1.2.1,h.2.1.2.2,h.2.2.1,h.2.2.2.1,h.2.2.2.2⟩
theorem neq_spn (a b c d:Int) (w:World):(binOp .neq 79 (.agg #[.int .i64 a,.int .i64 b]) (.agg #[.int .i64 c,.int .i64 d])).run prog w=.ok (.bool (!decide ((a,b)=(c,d)))) w:=by
 rw[run_neq_struct,run_equalIn_agg w 9999 79 _ _ (by kernel_rfl) (by kernel_rfl)];obtain⟨f0,f1,hf,h0,h1,h2,h3,h4,h5⟩:=fields2 (l:=(prog.fieldsOf 79).toList) (n0 := "From") (n1 := "To") (t0:=3) (t1:=3) (o0:=0) (o1:=1) (by kernel_rfl);rw[hf];simp[Op.eqFields,h0,h1,h2,h3,h4,h5,part,Tryz.isAgg3]
 by_cases e1:a=c<;>by_cases e2:b=d<;>simp[run_equalIn_int _ _ _ _ _ _ _ underlying3,Result.andThen,e1,e2]
theorem eq_ver (d:Nat) (a b c x y z:Int) (w:World):(Op.equalIn (d+2) 36 (.agg #[.int .i64 a,.int .i64 b,.int .i64 c]) (.agg #[.int .i64 x,.int .i64 y,.int .i64 z])).run prog w=.ok (decide ((a,b,c)=(x,y,z))) w:=by
 rw[run_equalIn_agg w (d+1) 36 _ _ (by kernel_rfl) (by kernel_rfl)];obtain⟨f0,f1,f2,hf,h0,h1,h2,h3,h4,h5,h6,h7,h8⟩:=fields3 (l:=(prog.fieldsOf 36).toList) (n0 := "Major") (n1 := "Minor") (n2 := "Patch") (t0:=3) (t1:=3) (t2:=3) (o0:=0) (o1:=1) (o2:=2) (by kernel_rfl);rw[hf];simp[Op.eqFields,h0,h1,h2,h3,h4,h5,h6,h7,h8,part,Tryz.isAgg3]
 by_cases e1:a=x<;>by_cases e2:b=y<;>by_cases e3:c=z<;>simp[run_equalIn_int _ _ _ _ _ _ _ underlying3,Result.andThen,e1,e2,e3]
theorem eq_sel (p q:List UInt8) (a b c x y z:Int) (w:World):(Op.equalIn 10000 38 (.agg #[.string ⟨p.toArray⟩,.int .i64 a,.int .i64 b,.int .i64 c]) (.agg #[.string ⟨q.toArray⟩,.int .i64 x,.int .i64 y,.int .i64 z])).run prog w=.ok (decide ((p,a,b,c)=(q,x,y,z))) w:=by
 rw[run_equalIn_agg w 9999 38 _ _ (by kernel_rfl) (by kernel_rfl)];obtain⟨f0,f1,hf,h0,h1,h2,h3,h4,h5⟩:=fields2 (l:=(prog.fieldsOf 38).toList) (n0 := "Path") (n1 := "Version") (t0:=9) (t1:=36) (o0:=0) (o1:=1) (by kernel_rfl);rw[hf];have z36:=Tryz.sizeOf36;have ev:∀ w,Sem.run prog (Op.equalIn 9999 36 (.agg #[.int .i64 a,.int .i64 b,.int .i64 c]) (.agg #[.int .i64 x,.int .i64 y,.int .i64 z])) w=.ok (decide ((a,b,c)=(x,y,z))) w:=fun w=>eq_ver 9997 a b c x y z w;have e0:((⟨p.toArray⟩:ByteArray).toList==(⟨q.toArray⟩:ByteArray).toList)=decide (p=q):=by rw[ByteArray.toList_eq,ByteArray.toList_eq,Bool.eq_iff_iff];simp
 have es:∀ w,Sem.run prog (Op.equalIn 9999 9 (.string ⟨p.toArray⟩) (.string ⟨q.toArray⟩)) w=.ok (decide (p=q)) w:=fun w=>by have:=run_equalIn_string (P:=prog) w 9998 9 ⟨p.toArray⟩ ⟨q.toArray⟩ underlying9;rw[e0] at this;exact this
 simp[Op.eqFields,h0,h1,h2,h3,h4,h5,part,Tryz.isAgg9,Tryz.isAgg36,z36,es,ev,Result.andThen]
 by_cases e1:p=q<;>by_cases a1:a=x<;>by_cases a2:b=y<;>by_cases a3:c=z<;>simp[e1,a1,a2,a3]
theorem neq_sel (p q:List UInt8) (a b c x y z:Int) (w:World):(binOp .neq 38 (.agg #[.string ⟨p.toArray⟩,.int .i64 a,.int .i64 b,.int .i64 c]) (.agg #[.string ⟨q.toArray⟩,.int .i64 x,.int .i64 y,.int .i64 z])).run prog w=.ok (.bool (!decide ((p,a,b,c)=(q,x,y,z)))) w:=by rw[run_neq_struct,eq_sel];rfl
theorem eql_sel (p q:List UInt8) (a b c x y z:Int) (w:World):(binOp .eql 38 (.agg #[.string ⟨p.toArray⟩,.int .i64 a,.int .i64 b,.int .i64 c]) (.agg #[.string ⟨q.toArray⟩,.int .i64 x,.int .i64 y,.int .i64 z])).run prog w=.ok (.bool (decide ((p,a,b,c)=(q,x,y,z)))) w:=by rw[run_eql_struct,eq_sel];rfl
theorem guard_spn:prog.eqGuardType prog.depth 79=false:=by kernel_rfl
theorem Po:prog.eqGuardType prog.depth 38=false:=by kernel_rfl
theorem drewNB {B:Nat} {w w':World} (h:Below B w w') (n:Nat):Below B w (w'.drewN n):=⟨h.os,h.tape,h.output,h.size,h.block⟩
theorem eq_drop {α:Type} [DecidableEq α] {s t:List α} {k:Nat} {x y:α} (hs:s[k]?=some x) (ht:t[k]?=some y) (he:s.take k=t.take k):(x=y→s.take (k+1)=t.take (k+1))∧(x≠y→s≠t):=by
 obtain⟨h1,e1⟩:=List.getElem?_eq_some_iff.1 hs;obtain⟨h2,e2⟩:=List.getElem?_eq_some_iff.1 ht;constructor
 ·intro e
  rw[List.take_succ_eq_append_getElem h1,List.take_succ_eq_append_getElem h2,he,e1,e2,e]
 ·intro hne e
  subst e;rw[hs] at ht;exact hne (Option.some.inj ht)
theorem E1 (s t:List Tm.Sp) (v u:Value) (F G:Nat→Prop) (w:World) (h:Qr w F v s) (h2:Qr w G u t) (hm:s.length≤4294967296):
 Calls prog 85 #[v,u] w fun e w'=>e=.returned (.bool (decide (s=t)))∧Below w.heap.size w w':=by
 obtain⟨A,c,rfl,-,-,hr⟩:=h;obtain⟨B,d,rfl,-,-,hr2⟩:=h2;obtain⟨N,hN⟩:∃ N,s.length=N:=⟨_,rfl⟩;obtain⟨M,hM⟩:∃ M,t.length=M:=⟨_,rfl⟩;rw[hN] at hm ⊢;rw[hM]
 by_cases hnm:N=M
 ·subst hnm
  have HM:=Kd4 hN hM hr.spans hr2.spans;obtain⟨res,hres⟩:∃ res,decide (s=t)=res:=⟨_,rfl⟩;rw[hres];have HR:=Kd hres;clear hN hM hr hr2 hres;go_enter func85,ntmps85;go_wp2
  go_loopw [13] (fun i wr=>∃(k:Nat),k≤N∧i=.int .i64 k∧Hid (Below w.heap.size w wr)∧Hid (s.take k=t.take k)) (fun i _=>N-(intOf i).toNat)
  case atStart=>exact⟨0,Nat.zero_le _,rfl,Kd (Below.refl _ _),Kd rfl⟩
  case round=>
   obtain⟨k,hk,rfl,hb,ht⟩:=hrel
   by_cases hlt:k<N
   ·obtain⟨h1,h2,h3,h4⟩:=HM.out
    obtain⟨b,off,rfl,hbl,c0,c1⟩:=h3 k (by omega);obtain⟨b',off',rfl,hbl',d0,d1⟩:=h4 k (by omega);rw[←hb.out.cell (p:=⟨b,off+k*2,none⟩) hbl] at c0;rw[←hb.out.cell (p:=⟨b,off+k*2+1,none⟩) hbl] at c1;rw[←hb.out.cell (p:=⟨b',off'+k*2,none⟩) hbl'] at d0;rw[←hb.out.cell (p:=⟨b',off'+k*2+1,none⟩) hbl'] at d1;obtain⟨x,hx⟩:∃ x,s[k]?=some x:=⟨_,List.getElem?_eq_getElem (by omega)⟩;obtain⟨y,hy⟩:∃ y,t[k]?=some y:=⟨_,List.getElem?_eq_getElem (by omega)⟩;obtain⟨q1,q2⟩:=eq_drop hx hy ht.out;rw[List.getD_eq_getElem?_getD,hx,Option.getD_some] at c0 c1;rw[List.getD_eq_getElem?_getD,hy,Option.getD_some] at d0 d1;obtain⟨x0,x1⟩:=x;obtain⟨y0,y1⟩:=y;dsimp only at c0 c1 d0 d1;have i0:(0:Int)≤(k:Int):=Int.natCast_nonneg _;have i1:(k:Int)<(N:Int):=Int.ofNat_lt.2 hlt;have KL:=Kd hlt;have Q:=Kd2 q1 q2;clear q1 q2 hx hy h1 h2 h3 h4 hbl hbl';have hn:=neq_spn x0 x1 y0 y1;have hgd:=guard_spn
    by_cases he:(x0,x1)=(y0,y1)
    ·have Q1:=Kd (Q.out.1 he)
     rw[decide_eq_true he] at hn;clear he;go_wp2_with fail
     go_quiet (fail)
     go_wp2
     go_roundw
     case rel=>exact⟨k+1,Nat.succ_le_of_lt KL.out,by go_num,Kd (drewNB hb.out _),Q1⟩
     case measure=>have:=KL.out;simp[intOf];omega
    ·obtain rfl:res=false:=by rw[←HR.out,decide_eq_false (Q.out.2 he)]
     rw[decide_eq_false he] at hn;clear he;go_wp2_with fail
     go_quiet (fail)
     go_wp2;go_ret;exact⟨rfl,drewNB hb.out _⟩
   ·obtain rfl:k=N:=Nat.le_antisymm hk (Nat.le_of_not_lt hlt)
    have hge:decide ((k:Int)<(k:Int))=false:=by simp
    obtain rfl:res=true:=by
     rw[←HR.out,decide_eq_true_eq];have:=ht.out
     rwa [List.take_of_length_le (by rw[HM.out.1];exact Nat.le_refl _),List.take_of_length_le (by rw[HM.out.2.1];exact Nat.le_refl _)] at this
    go_wp2;go_ret;exact⟨rfl,hb.out⟩
 ·have hne:decide (s=t)=false:=decide_eq_false fun e=>hnm (by rw[←hN,←hM,e])
  rw[hne];have hi:((N:Int)==(M:Int))=false:=beq_eq_false_iff_ne.2 (by omega);clear hr hr2 hN hM;go_enter func85,ntmps85;go_wp2;go_ret;exact⟨rfl,Below.refl _ _⟩
abbrev Zy:=Tm.Qk×Int×Int×Int
def Wm (x:Zy):List Value:=[.string ⟨x.1.toArray⟩,.int .i64 x.2.1,.int .i64 x.2.2.1,.int .i64 x.2.2.2]
def Xz (w:World) (F:Nat→Prop) (v:Value) (s:List Zy):Prop:=∃ A c,v=.slice A s.length c∧s.length≤c∧c≤maxLen∧Z9 w F A (s.flatMap Wm)
section
variable {w w':World} {F G:Nat→Prop} {v:Value} {s:List Zy}
theorem Xz.keep (h:Xz w F v s) (hk:Qm F w w'):Xz w' F v s:=by obtain⟨A,c,e,h1,h2,h3⟩:=h;exact⟨A,c,e,h1,h2,h3.keep hk⟩
theorem Xz.below (h:Xz w F v s) (hb:Below w.heap.size w w'):Xz w' F v s:=h.keep (Qm.of_below hb)
theorem Xz.mono (h:Xz w F v s) (hF:∀ k,F k→G k):Xz w G v s:=by obtain⟨A,c,e,h1,h2,h3⟩:=h;exact⟨A,c,e,h1,h2,h3.mono hF⟩
end
theorem Z9.sels {w:World} {F:Nat→Prop} {A:Option Addr} {s:List Zy} (h:Z9 w F A (s.flatMap Wm)):∀ j,j<s.length→∃ b off,A=some ⟨b,off,none⟩∧b<w.heap.size∧
 w.cell? ⟨b,off+j*4,none⟩=some (.string ⟨(s.getD j ([],0,0,0)).1.toArray⟩)∧w.cell? ⟨b,off+j*4+1,none⟩=some (.int .i64 (s.getD j ([],0,0,0)).2.1)∧w.cell? ⟨b,off+j*4+2,none⟩=some (.int .i64 (s.getD j ([],0,0,0)).2.2.1)∧w.cell? ⟨b,off+j*4+3,none⟩=some (.int .i64 (s.getD j ([],0,0,0)).2.2.2):=fun j hj=>by
 obtain⟨b,off,e,_,h1,h2⟩:=h.get (fun _=>rfl) hj (k:=4) (by decide);rw[List.getD_eq_getElem?_getD,List.getElem?_eq_getElem hj,Option.getD_some];exact⟨b,off,e,h1,h2 0 _ rfl,h2 1 _ rfl,h2 2 _ rfl,h2 3 _ rfl⟩
theorem P5 (s t:List Zy) (v u:Value) (F G:Nat→Prop) (w:World) (h:Xz w F v s) (h2:Xz w G u t) (hm:s.length≤4294967296):
 Calls prog 10 #[v,u] w fun e w'=>e=.returned (.bool (decide (s=t)))∧Below w.heap.size w w':=by
 obtain⟨A,c,rfl,-,-,hr⟩:=h;obtain⟨B,d,rfl,-,-,hr2⟩:=h2;obtain⟨N,hN⟩:∃ N,s.length=N:=⟨_,rfl⟩;obtain⟨M,hM⟩:∃ M,t.length=M:=⟨_,rfl⟩;rw[hN] at hm ⊢;rw[hM]
 by_cases hnm:N=M
 ·subst hnm
  have HM:=Kd4 hN hM hr.sels hr2.sels;obtain⟨res,hres⟩:∃ res,decide (s=t)=res:=⟨_,rfl⟩;rw[hres];have HR:=Kd hres;clear hN hM hr hr2 hres;go_enter func10,ntmps10;go_wp2
  go_loopw [13] (fun i wr=>∃(k:Nat),k≤N∧i=.int .i64 k∧Hid (Below w.heap.size w wr)∧Hid (s.take k=t.take k)) (fun i _=>N-(intOf i).toNat)
  case atStart=>exact⟨0,Nat.zero_le _,rfl,Kd (Below.refl _ _),Kd rfl⟩
  case round=>
   obtain⟨k,hk,rfl,hb,ht⟩:=hrel
   by_cases hlt:k<N
   ·obtain⟨h1,h2,h3,h4⟩:=HM.out
    obtain⟨b,off,rfl,hbl,c0,c1,c2,c3⟩:=h3 k (by omega);obtain⟨b',off',rfl,hbl',d0,d1,d2,d3⟩:=h4 k (by omega);rw[←hb.out.cell (p:=⟨b,off+k*4,none⟩) hbl] at c0;rw[←hb.out.cell (p:=⟨b,off+k*4+1,none⟩) hbl] at c1;rw[←hb.out.cell (p:=⟨b,off+k*4+2,none⟩) hbl] at c2;rw[←hb.out.cell (p:=⟨b,off+k*4+3,none⟩) hbl] at c3;rw[←hb.out.cell (p:=⟨b',off'+k*4,none⟩) hbl'] at d0;rw[←hb.out.cell (p:=⟨b',off'+k*4+1,none⟩) hbl'] at d1;rw[←hb.out.cell (p:=⟨b',off'+k*4+2,none⟩) hbl'] at d2;rw[←hb.out.cell (p:=⟨b',off'+k*4+3,none⟩) hbl'] at d3;obtain⟨x,hx⟩:∃ x,s[k]?=some x:=⟨_,List.getElem?_eq_getElem (by omega)⟩;obtain⟨y,hy⟩:∃ y,t[k]?=some y:=⟨_,List.getElem?_eq_getElem (by omega)⟩;obtain⟨q1,q2⟩:=eq_drop hx hy ht.out;rw[List.getD_eq_getElem?_getD,hx,Option.getD_some] at c0 c1 c2 c3;rw[List.getD_eq_getElem?_getD,hy,Option.getD_some] at d0 d1 d2 d3;obtain⟨x0,x1,x2,x3⟩:=x;obtain⟨y0,y1,y2,y3⟩:=y;dsimp only at c0 c1 c2 c3 d0 d1 d2 d3;have i0:(0:Int)≤(k:Int):=Int.natCast_nonneg _;have i1:(k:Int)<(N:Int):=Int.ofNat_lt.2 hlt;have KL:=Kd hlt;have Q:=Kd2 q1 q2;clear q1 q2 hx hy h1 h2 h3 h4 hbl hbl';have hn:=neq_sel x0 y0 x1 x2 x3 y1 y2 y3;have hgd:=Po
    by_cases he:(x0,x1,x2,x3)=(y0,y1,y2,y3)
    ·have Q1:=Kd (Q.out.1 he)
     rw[decide_eq_true he] at hn;clear he;go_wp2_with fail
     go_quiet (fail)
     go_wp2
     go_roundw
     case rel=>exact⟨k+1,Nat.succ_le_of_lt KL.out,by go_num,Kd (drewNB hb.out _),Q1⟩
     case measure=>have:=KL.out;simp[intOf];omega
    ·obtain rfl:res=false:=by rw[←HR.out,decide_eq_false (Q.out.2 he)]
     rw[decide_eq_false he] at hn;clear he;go_wp2_with fail
     go_quiet (fail)
     go_wp2;go_ret;exact⟨rfl,drewNB hb.out _⟩
   ·obtain rfl:k=N:=Nat.le_antisymm hk (Nat.le_of_not_lt hlt)
    have hge:decide ((k:Int)<(k:Int))=false:=by simp
    obtain rfl:res=true:=by
     rw[←HR.out,decide_eq_true_eq];have:=ht.out
     rwa [List.take_of_length_le (by rw[HM.out.1];exact Nat.le_refl _),List.take_of_length_le (by rw[HM.out.2.1];exact Nat.le_refl _)] at this
    go_wp2;go_ret;exact⟨rfl,hb.out⟩
 ·have hne:decide (s=t)=false:=decide_eq_false fun e=>hnm (by rw[←hN,←hM,e])
  rw[hne];have hi:((N:Int)==(M:Int))=false:=beq_eq_false_iff_ne.2 (by omega);clear hr hr2 hN hM;go_enter func10,ntmps10;go_wp2;go_ret;exact⟨rfl,Below.refl _ _⟩
def orI (a b:Int):Int:=if a=0 then b else a
theorem or_spec (a b:Int) (g:Nat) (w:World) (h0:w.cell? ⟨g,0,none⟩=some (.int .i64 a)) (h1:w.cell? ⟨g,1,none⟩=some (.int .i64 b)):Calls prog 82 #[.slice (some ⟨g,0,none⟩) 2 2] w fun e w'=>e=.returned (.int .i64 (orI a b))∧w'=w:=by
 obtain⟨r,hr⟩:∃ r,orI a b=r:=⟨_,rfl⟩;rw[hr];have HR:=Kd hr;clear hr;go_enter func82,ntmps82;go_wp2
 go_loopw [8] (fun i wr=>∃(k:Nat),k≤2∧i=.int .i64 k∧wr=w∧Hid ((0<k→a=0)∧(1<k→b=0))) (fun i _=>2-(intOf i).toNat)
 case atStart=>exact⟨0,by decide,rfl,rfl,Kd ⟨fun h=>absurd h (by decide),fun h=>absurd h (by decide)⟩⟩
 case round=>
  obtain⟨k,hk,rfl,rfl,hp⟩:=hrel
  match k,hk with
  | 0,_=>
    by_cases ha:a=0
    ·subst ha
     go_wp2
     go_roundw
     case rel=>exact⟨1,by decide,by first|rfl|trivial,trivial,Kd ⟨fun _=>by first|rfl|trivial,fun h=>absurd h (by decide)⟩⟩
     case measure=>simp[intOf]
    ·obtain rfl:r=a:=by rw[←HR.out];unfold orI;rw[if_neg ha]
     have hb:(r==0)=false:=beq_eq_false_iff_ne.2 ha;go_wp2;go_ret;exact⟨rfl,rfl⟩
  | 1,_=>
    have ha:=hp.out.1 (by decide)
    by_cases hb:b=0
    ·subst hb
     go_wp2
     go_roundw
     case rel=>exact⟨2,by decide,by first|rfl|trivial,trivial,Kd ⟨fun _=>ha,fun _=>by first|rfl|trivial⟩⟩
     case measure=>simp[intOf]
    ·obtain rfl:r=b:=by rw[←HR.out];unfold orI;rw[if_pos ha]
     have hb':(r==0)=false:=beq_eq_false_iff_ne.2 hb;go_wp2;go_ret;exact⟨rfl,rfl⟩
  | 2,_=>
    obtain rfl:r=0:=by rw[←HR.out];unfold orI;rw[if_pos (hp.out.1 (by decide))];exact hp.out.2 (by decide)
    go_wp2;go_ret;exact⟨rfl,rfl⟩
  |k+3,hk=>omega
def Fa (r:Qi):Value:=.agg (Xi r).toArray
def cmpR (r s:Qi):Int:=orI (E5 r.path s.path) (cmpV r.major r.minor r.patch s.major s.minor s.patch)
theorem Te (r:Qi) (w:World):Calls prog 43 #[Fa r] w fun e w'=>e=.returned (.agg #[.string ⟨r.path.toArray⟩,.int .i64 r.major,.int .i64 r.minor,.int .i64 r.patch])∧Below w.heap.size w w':=by obtain⟨pa,ma,mi,pt,rq,rv,ar,ifc,ce,ya⟩:=r;unfold Fa Xi;dsimp only;go_enter func43,ntmps43;go_wp2;have bk:=Uc.new (w.alloc (.cells #[.string ⟨pa.toArray⟩,.int .i64 ma,.int .i64 mi,.int .i64 pt,rv,.string ⟨ar.toArray⟩,.string ⟨ifc.toArray⟩,.string ⟨ce.toArray⟩,.bool ya] 46)) 38 #[.string ⟨pa.toArray⟩,.int .i64 ma,.int .i64 mi,.int .i64 pt];refine bodyPost_ret (v:=.agg #[.string ⟨pa.toArray⟩,.int .i64 ma,.int .i64 mi,.int .i64 pt]) (by simp[results,Tryz.results43,go_sem]) rfl ?_;exact⟨rfl,(b1 w _).alloc (by simp) _⟩
theorem Ii (r s:Qi) (w:World):Calls prog 44 #[Fa r,Fa s] w fun e w'=>e=.returned (.int .i64 (cmpR r s))∧Below w.heap.size w w':=by
 obtain⟨pa,ma,mi,pt,rq,rv,ar,ifc,ce,ya⟩:=r;obtain⟨pa',ma',mi',pt',rq',rv',ar',ifc',ce',ya'⟩:=s;unfold Fa Xi cmpR;dsimp only;have k1:=fun W=>cmpS_spec pa pa' W;have k2:=fun W=>cmpV_spec ma mi pt ma' mi' pt' W;generalize E5 pa pa'=c1 at k1 ⊢;generalize cmpV ma mi pt ma' mi' pt'=c2 at k2 ⊢;obtain⟨res,hr⟩:∃ res,orI c1 c2=res:=⟨_,rfl⟩;rw[hr];obtain⟨W0,hW0⟩:∃ W0,(w.alloc (.cells #[.string ⟨pa.toArray⟩,.int .i64 ma,.int .i64 mi,.int .i64 pt,rv,.string ⟨ar.toArray⟩,.string ⟨ifc.toArray⟩,.string ⟨ce.toArray⟩,.bool ya] 46)).alloc (.cells #[.string ⟨pa'.toArray⟩,.int .i64 ma',.int .i64 mi',.int .i64 pt',rv',.string ⟨ar'.toArray⟩,.string ⟨ifc'.toArray⟩,.string ⟨ce'.toArray⟩,.bool ya'] 46)=W0:=⟨_,rfl⟩;have y0:=((St.nil w).alloc 46 #[.string ⟨pa.toArray⟩,.int .i64 ma,.int .i64 mi,.int .i64 pt,rv,.string ⟨ar.toArray⟩,.string ⟨ifc.toArray⟩,.string ⟨ce.toArray⟩,.bool ya]).alloc 46 #[.string ⟨pa'.toArray⟩,.int .i64 ma',.int .i64 mi',.int .i64 pt',rv',.string ⟨ar'.toArray⟩,.string ⟨ifc'.toArray⟩,.string ⟨ce'.toArray⟩,.bool ya'];rw[hW0,World.size_alloc] at y0;have HB:=Kd y0.below;have hS:∀ W,Below W0.heap.size W0 W→W.cell? ⟨w.heap.size,0,none⟩=some (.string ⟨pa.toArray⟩)∧W.cell? ⟨w.heap.size,1,none⟩=some (.int .i64 ma)∧W.cell? ⟨w.heap.size,2,none⟩=some (.int .i64 mi)∧W.cell? ⟨w.heap.size,3,none⟩=some (.int .i64 pt)∧W.cell? ⟨w.heap.size+1,0,none⟩=some (.string ⟨pa'.toArray⟩)∧W.cell? ⟨w.heap.size+1,1,none⟩=some (.int .i64 ma')∧W.cell? ⟨w.heap.size+1,2,none⟩=some (.int .i64 mi')∧W.cell? ⟨w.heap.size+1,3,none⟩=some (.int .i64 pt'):=fun W hb=>by have z:=y0.under hb;have b2:=z.blk;have b1:=z.tail.blk;exact⟨b1.cell 0,b1.cell 1,b1.cell 2,b1.cell 3,b2.cell 0,b2.cell 1,b2.cell 2,b2.cell 3⟩
 have HS:=Kd hS;have HR:=Kd hr;have z0:=Below.refl W0.heap.size W0;clear y0 hS hr;go_enter func44,ntmps44;go_wp2_with fail;clear hW0;refine wp_region_noPanic ?_;refine wp_region_held_drew (S:=(fun W=>W.cell? ⟨w.heap.size,0,none⟩=some (.string ⟨pa.toArray⟩)∧W.cell? ⟨w.heap.size,1,none⟩=some (.int .i64 ma)∧W.cell? ⟨w.heap.size,2,none⟩=some (.int .i64 mi)∧W.cell? ⟨w.heap.size,3,none⟩=some (.int .i64 pt)∧W.cell? ⟨w.heap.size+1,0,none⟩=some (.string ⟨pa'.toArray⟩)∧W.cell? ⟨w.heap.size+1,1,none⟩=some (.int .i64 ma')∧W.cell? ⟨w.heap.size+1,2,none⟩=some (.int .i64 mi')∧W.cell? ⟨w.heap.size+1,3,none⟩=some (.int .i64 pt') )) (by kernel_rfl) ?_ (fun hH0=>?_)
 ·exact HS.out _ z0.drew
 refine tk 0 5 hH0 ?_;refine tk 1 6 hH0 ?_;refine tk 2 7 hH0 ?_;refine tk 3 8 hH0 ?_;refine tk 5 10 hH0 ?_;refine tk 6 11 hH0 ?_;refine tk 7 12 hH0 ?_;refine tk 8 13 hH0 ?_;refine Zk [4] ?_;refine an 9 fun K hK=>?_
 go_simp;(
  with_reducible refine(k1 _).mono ?_
  rintro e w1 ⟨rfl,hw⟩;have za:Below W0.heap.size W0 w1:=by rw[hw];first|exact z0|exact z0.drew
  clear hw);go_wp2_with fail
 refine hK.out _ _ ?_ (fun hH1=>?_)
 ·exact HS.out _ za
 clear hK K hH0
 try simp only[pu]
 refine Zk [9] ?_;refine an 14 fun K hK=>?_
 go_simp;(
  with_reducible refine(k2 _).mono ?_
  rintro e w2 ⟨rfl,b1⟩;have z1:Below W0.heap.size W0 w2:=by first|exact za.trans (b1.mono za.size)|exact za.drew.trans (b1.mono za.drew.size)
  clear b1);go_wp2_with fail
 refine hK.out _ _ ?_ (fun hH2=>?_)
 ·exact HS.out _ z1
 clear hK K hH1
 try simp only[pu]
 refine Zk [10] ?_;refine an 15 fun K hK=>?_;go_simp;refine hK.out _ _ ?_ (fun hH3=>?_)
 ·exact HS.out _ (z1.alloc z1.size _)
 clear hK K hH2
 try simp only[pu]
 refine Zk [11] ?_;refine an 16 fun K hK=>?_
 go_simp;(
  with_reducible refine(or_spec c1 c2 w2.heap.size _ (Uc.cell (Uc.new w2 3 #[.int .i64 c1,.int .i64 c2]) 0) (Uc.cell (Uc.new w2 3 #[.int .i64 c1,.int .i64 c2]) 1)).mono ?_
  rintro e w3 ⟨rfl,hw⟩;have zb:Below W0.heap.size W0 w3:=by rw[hw];first|exact z1.alloc z1.size _|exact(z1.alloc z1.size _).drew
  clear hw);go_wp2_with fail
 refine hK.out _ _ ?_ (fun hH4=>?_)
 ·exact HS.out _ zb
 clear hK K hH3
 try simp only[pu]
 refine tk 12 4 hH4 ?_;refine dn ?_ _
 all_goals(refine NoPanic.normal ?_)
 have ZB:=Kd (HB.out.trans (zb.mono HB.out.size));clear zb z1 za;rw[HR.out];go_wp2;go_ret;exact⟨rfl,ZB.out⟩
def T2 (q:Tm.Qw) (b:Option Tm.Qk):Int:=if (Uz q.path).isSome=true then (if q.set=[] then 1 else if q.set=Tm.Q9 q.set then (match b with
 |none=>0
 |some p=>if Tm.Jr p q.path=true then 0 else 1) else 1) else 4
def ptrV:Option (Nat×Nat×Tm.Qk)→Value
 |none=>.pointer none
 |some (b,o,_)=>.pointer (some ⟨b,o,none⟩)
def ptrAt (w:World):Option (Nat×Nat×Tm.Qk)→Prop
 |none=>True
 |some (b,o,p)=>b<w.heap.size∧w.cell? ⟨b,o,none⟩=some (.string ⟨p.toArray⟩)
theorem leq_str (a b:Tm.Qk):(Tm.Jr a b||a==b)=!Tm.Jr b a:=by rw[←gtr_str a b,Bool.not_not]
theorem ckqa1 (q:Tm.Qw) (v:Value) (F:Nat→Prop) (w:World) (h:Qr w F v q.set) (hl:q.set.length≤4294967296) (hp:q.path.length≤4294967000) (hg:Ji w) (hm:(Uz q.path).isSome=true) (he:q.set=[]) (bv:Option Addr):
 Calls prog 45 #[.agg #[.string ⟨q.path.toArray⟩,v],(.pointer bv)] w fun e w'=>e=.returned (.int .i64 1)∧Below w.heap.size w w':=by
 obtain⟨n,hn⟩:∃ n,q.set.length=n:=⟨_,rfl⟩;obtain⟨A,c,hvv⟩:∃ A c,v=.slice A n c:=by obtain⟨A,c,e,-⟩:=h;rw[hn] at e;exact⟨A,c,e⟩
 obtain rfl:n=0:=by rw[←hn,he];rfl
 clear he;obtain⟨W0,hW0⟩:∃ W0,w.alloc (.cells #[.string ⟨q.path.toArray⟩,v] 43)=W0:=⟨_,rfl⟩;have y0:=(St.nil w).alloc 43 #[.string ⟨q.path.toArray⟩,v];rw[hW0] at y0;have z0:Below w.heap.size w W0:=y0.below;have k1:=Xu q.path W0 hp (hg.below z0);rw[if_pos hm] at k1;have hS:∀ W',Below W0.heap.size W0 W'→W'.cell? ⟨w.heap.size,0,none⟩=some (.string ⟨q.path.toArray⟩)∧W'.cell? ⟨w.heap.size,1,none⟩=some v:=fun W' hb=>by have z:=y0.under hb;have b1:=z.blk;exact⟨b1.cell 0,b1.cell 1⟩
 have HS:=Kd hS;have hv:=(h.below z0).lt;have x0:=(HS.out W0 (Below.refl _ _)).1;have Z0:=Kd z0;clear y0 hS z0 hg;have HN:=Kd hn;subst hvv;clear h hn;go_enter func45,ntmps45;go_wp2_with fail;refine k1.mono ?_;rintro e w1 ⟨⟨nm,rfl⟩,z1⟩;clear k1;go_wp2_with fail;clear hW0;refine wp_region_noPanic ?_;refine wp_region_held_drew (S:=(fun W'=>W'.cell? ⟨w.heap.size,0,none⟩=some (.string ⟨q.path.toArray⟩)∧W'.cell? ⟨w.heap.size,1,none⟩=some (.slice A 0 c))) (by kernel_rfl) ?_ (fun hH0=>?_)
 ·exact HS.out _ z1.drew
 refine tk 0 17 hH0 ?_;refine tk 1 18 hH0 ?_;refine tk 2 19 hH0 ?_;refine tk 3 20 hH0 ?_;refine tk 4 21 hH0 ?_;refine tu 5 22 hH0 ?_;refine tu 6 23 hH0 ?_;refine tu 7 24 hH0 ?_;refine tu 8 25 hH0 ?_;refine tu 9 26 hH0 ?_;refine tu 10 27 hH0 ?_;refine tu 11 28 hH0 ?_;refine tk 12 29 hH0 ?_;refine tk 13 30 hH0 ?_;refine tu 14 31 hH0 ?_;refine tu 15 32 hH0 ?_;refine tu 16 33 hH0 ?_;refine tu 17 34 hH0 ?_;refine tu 18 35 hH0 ?_;refine tu 19 36 hH0 ?_;refine tu 20 37 hH0 ?_;refine tu 21 38 hH0 ?_;refine tu 22 39 hH0 ?_;refine tu 23 40 hH0 ?_;refine tu 24 41 hH0 ?_;refine tk 25 42 hH0 ?_;refine dn ?_ _
 all_goals(refine NoPanic.normal ?_)
 have ZZ:=Kd (Z0.out.trans (z1.mono Z0.out.size));go_wp2;go_ret
 first
  |exact⟨rfl,ZZ.out⟩
  |exact⟨rfl,ZZ.out.drew⟩
theorem ckqa2 (q:Tm.Qw) (v:Value) (F:Nat→Prop) (w:World) (h:Qr w F v q.set) (hl:q.set.length≤4294967296) (hp:q.path.length≤4294967000) (hg:Ji w) (hm:(Uz q.path).isSome=true) (he:q.set≠[]) (hne:q.set≠Tm.Q9 q.set) (bv:Option Addr):
 Calls prog 45 #[.agg #[.string ⟨q.path.toArray⟩,v],(.pointer bv)] w fun e w'=>e=.returned (.int .i64 1)∧Below w.heap.size w w':=by
 obtain⟨n,hn⟩:∃ n,q.set.length=n:=⟨_,rfl⟩;obtain⟨A,c,hvv⟩:∃ A c,v=.slice A n c:=by obtain⟨A,c,e,-⟩:=h;rw[hn] at e;exact⟨A,c,e⟩
 have n0:((n:Int)==0)=false:=beq_eq_false_iff_ne.2 fun e=>he (List.eq_nil_of_length_eq_zero (by omega));clear he;obtain⟨W0,hW0⟩:∃ W0,w.alloc (.cells #[.string ⟨q.path.toArray⟩,v] 43)=W0:=⟨_,rfl⟩;have y0:=(St.nil w).alloc 43 #[.string ⟨q.path.toArray⟩,v];rw[hW0] at y0;have z0:Below w.heap.size w W0:=y0.below;have k1:=Xu q.path W0 hp (hg.below z0);rw[if_pos hm] at k1;have hS:∀ W',Below W0.heap.size W0 W'→W'.cell? ⟨w.heap.size,0,none⟩=some (.string ⟨q.path.toArray⟩)∧W'.cell? ⟨w.heap.size,1,none⟩=some v:=fun W' hb=>by have z:=y0.under hb;have b1:=z.blk;exact⟨b1.cell 0,b1.cell 1⟩
 have HS:=Kd hS;have hv:=(h.below z0).lt;have x0:=(HS.out W0 (Below.refl _ _)).1;have Z0:=Kd z0;clear y0 hS z0 hg;have HN:=Kd hn;subst hvv;clear h hn;go_enter func45,ntmps45;go_wp2_with fail;refine k1.mono ?_;rintro e w1 ⟨⟨nm,rfl⟩,z1⟩;clear k1;go_wp2_with fail;clear hW0;refine wp_region_noPanic ?_;refine wp_region_held_drew (S:=(fun W'=>W'.cell? ⟨w.heap.size,0,none⟩=some (.string ⟨q.path.toArray⟩)∧W'.cell? ⟨w.heap.size,1,none⟩=some (.slice A n c))) (by kernel_rfl) ?_ (fun hH0=>?_)
 ·exact HS.out _ z1.drew
 refine tk 0 17 hH0 ?_;refine tk 1 18 hH0 ?_;refine tk 2 19 hH0 ?_;refine tk 3 20 hH0 ?_;refine tk 4 21 hH0 ?_;refine tk 5 22 hH0 ?_;refine tk 6 23 hH0 ?_;refine tk 7 24 hH0 ?_;refine tk 8 25 hH0 ?_;refine Zk [9] ?_;refine an 26 fun K hK=>?_
 go_simp;(
  with_reducible refine(Wh q.set _ _ _ (hv.keep (Qm.under z1.drew (fun _ hk=>hk.2))) hl).mono ?_
  rintro e w2 ⟨vc,rfl,b2,hc⟩;obtain⟨Ac,nc,cc,rfl⟩:=hc.shape
  have z2:Below W0.heap.size W0 w2:=z1.drew.trans (b2.mono z1.drew.size));go_wp2_with fail
 refine hK.out _ _ ?_ (fun hH1=>?_)
 ·exact HS.out _ z2
 clear hK K hH0
 try simp only[pu]
 refine Zk [10] ?_;refine an 27 fun K hK=>?_
 go_simp;(
  with_reducible refine(E1 q.set (Tm.Q9 q.set) _ _ _ _ _ (hv.keep (Qm.under z2 (fun _ hk=>hk.2))) hc hl).mono ?_
  rintro e w3 ⟨e3,b3⟩;rw[decide_eq_false hne] at e3;subst e3
  have z3:Below W0.heap.size W0 w3:=z2.trans (b3.mono z2.size));go_wp2_with fail
 refine hK.out _ _ ?_ (fun hH2=>?_)
 ·exact HS.out _ z3
 clear hK K hH1
 try simp only[pu]
 refine tk 11 28 hH2 ?_;refine tk 12 29 hH2 ?_;refine tk 13 30 hH2 ?_;refine tu 14 31 hH2 ?_;refine tu 15 32 hH2 ?_;refine tu 16 33 hH2 ?_;refine tu 17 34 hH2 ?_;refine tu 18 35 hH2 ?_;refine tu 19 36 hH2 ?_;refine tu 20 37 hH2 ?_;refine tu 21 38 hH2 ?_;refine tu 22 39 hH2 ?_;refine tu 23 40 hH2 ?_;refine tu 24 41 hH2 ?_;refine tk 25 42 hH2 ?_;refine dn ?_ _
 all_goals(refine NoPanic.normal ?_)
 have ZZ:=Kd (Z0.out.trans (z3.mono Z0.out.size));go_wp2;go_ret
 first
  |exact⟨rfl,ZZ.out⟩
  |exact⟨rfl,ZZ.out.drew⟩
theorem ckqa3 (q:Tm.Qw) (v:Value) (F:Nat→Prop) (w:World) (h:Qr w F v q.set) (hl:q.set.length≤4294967296) (hp:q.path.length≤4294967000) (hg:Ji w) (hm:(Uz q.path).isSome=true) (he:q.set≠[]) (heq:q.set=Tm.Q9 q.set):
 Calls prog 45 #[.agg #[.string ⟨q.path.toArray⟩,v],(.pointer none)] w fun e w'=>e=.returned (.int .i64 0)∧Below w.heap.size w w':=by
 obtain⟨n,hn⟩:∃ n,q.set.length=n:=⟨_,rfl⟩;obtain⟨A,c,hvv⟩:∃ A c,v=.slice A n c:=by obtain⟨A,c,e,-⟩:=h;rw[hn] at e;exact⟨A,c,e⟩
 have n0:((n:Int)==0)=false:=beq_eq_false_iff_ne.2 fun e=>he (List.eq_nil_of_length_eq_zero (by omega));clear he;obtain⟨W0,hW0⟩:∃ W0,w.alloc (.cells #[.string ⟨q.path.toArray⟩,v] 43)=W0:=⟨_,rfl⟩;have y0:=(St.nil w).alloc 43 #[.string ⟨q.path.toArray⟩,v];rw[hW0] at y0;have z0:Below w.heap.size w W0:=y0.below;have k1:=Xu q.path W0 hp (hg.below z0);rw[if_pos hm] at k1;have hS:∀ W',Below W0.heap.size W0 W'→W'.cell? ⟨w.heap.size,0,none⟩=some (.string ⟨q.path.toArray⟩)∧W'.cell? ⟨w.heap.size,1,none⟩=some v:=fun W' hb=>by have z:=y0.under hb;have b1:=z.blk;exact⟨b1.cell 0,b1.cell 1⟩
 have HS:=Kd hS;have hv:=(h.below z0).lt;have x0:=(HS.out W0 (Below.refl _ _)).1;have Z0:=Kd z0;clear y0 hS z0 hg;have HN:=Kd hn;subst hvv;clear h hn;go_enter func45,ntmps45;go_wp2_with fail;refine k1.mono ?_;rintro e w1 ⟨⟨nm,rfl⟩,z1⟩;clear k1;go_wp2_with fail;clear hW0;refine wp_region_noPanic ?_;refine wp_region_held_drew (S:=(fun W'=>W'.cell? ⟨w.heap.size,0,none⟩=some (.string ⟨q.path.toArray⟩)∧W'.cell? ⟨w.heap.size,1,none⟩=some (.slice A n c))) (by kernel_rfl) ?_ (fun hH0=>?_)
 ·exact HS.out _ z1.drew
 refine tk 0 17 hH0 ?_;refine tk 1 18 hH0 ?_;refine tk 2 19 hH0 ?_;refine tk 3 20 hH0 ?_;refine tk 4 21 hH0 ?_;refine tk 5 22 hH0 ?_;refine tk 6 23 hH0 ?_;refine tk 7 24 hH0 ?_;refine tk 8 25 hH0 ?_;refine Zk [9] ?_;refine an 26 fun K hK=>?_
 go_simp;(
  with_reducible refine(Wh q.set _ _ _ (hv.keep (Qm.under z1.drew (fun _ hk=>hk.2))) hl).mono ?_
  rintro e w2 ⟨vc,rfl,b2,hc⟩;obtain⟨Ac,nc,cc,rfl⟩:=hc.shape
  have z2:Below W0.heap.size W0 w2:=z1.drew.trans (b2.mono z1.drew.size));go_wp2_with fail
 refine hK.out _ _ ?_ (fun hH1=>?_)
 ·exact HS.out _ z2
 clear hK K hH0
 try simp only[pu]
 refine Zk [10] ?_;refine an 27 fun K hK=>?_
 go_simp;(
  with_reducible refine(E1 q.set (Tm.Q9 q.set) _ _ _ _ _ (hv.keep (Qm.under z2 (fun _ hk=>hk.2))) hc hl).mono ?_
  rintro e w3 ⟨e3,b3⟩;rw[decide_eq_true heq] at e3;subst e3
  have z3:Below W0.heap.size W0 w3:=z2.trans (b3.mono z2.size));go_wp2_with fail
 refine hK.out _ _ ?_ (fun hH2=>?_)
 ·exact HS.out _ z3
 clear hK K hH1
 try simp only[pu]
 refine tk 11 28 hH2 ?_;refine tk 12 29 hH2 ?_;refine tk 13 30 hH2 ?_;refine tk 14 31 hH2 ?_;refine tk 15 32 hH2 ?_;refine tk 16 33 hH2 ?_;refine tu 17 34 hH2 ?_;refine tu 18 35 hH2 ?_;refine tu 19 36 hH2 ?_;refine tu 20 37 hH2 ?_;refine tu 21 38 hH2 ?_;refine tu 22 39 hH2 ?_;refine tu 23 40 hH2 ?_;refine tk 24 41 hH2 ?_;refine tk 25 42 hH2 ?_;refine dn ?_ _
 all_goals(refine NoPanic.normal ?_)
 have ZZ:=Kd (Z0.out.trans (z3.mono Z0.out.size));go_wp2;go_ret
 first
  |exact⟨rfl,ZZ.out⟩
  |exact⟨rfl,ZZ.out.drew⟩
theorem ckqa4 (q:Tm.Qw) (v:Value) (F:Nat→Prop) (w:World) (h:Qr w F v q.set) (hl:q.set.length≤4294967296) (hp:q.path.length≤4294967000) (hg:Ji w) (hm:(Uz q.path).isSome=true) (he:q.set≠[]) (heq:q.set=Tm.Q9 q.set) (b o:Nat) (p:Tm.Qk) (hb0:b<w.heap.size) (hbc:w.cell? ⟨b,o,none⟩=some (.string ⟨p.toArray⟩)):
 Calls prog 45 #[.agg #[.string ⟨q.path.toArray⟩,v],(.pointer (some ⟨b,o,none⟩))] w fun e w'=>e=.returned (.int .i64 (if Tm.Jr p q.path=true then 0 else 1))∧Below w.heap.size w w':=by
 obtain⟨n,hn⟩:∃ n,q.set.length=n:=⟨_,rfl⟩;obtain⟨A,c,hvv⟩:∃ A c,v=.slice A n c:=by obtain⟨A,c,e,-⟩:=h;rw[hn] at e;exact⟨A,c,e⟩
 have n0:((n:Int)==0)=false:=beq_eq_false_iff_ne.2 fun e=>he (List.eq_nil_of_length_eq_zero (by omega));clear he;obtain⟨r,hr⟩:∃ r,Tm.Jr p q.path=r:=⟨_,rfl⟩;rw[hr];have HBL:=Kd (show (Op.bytesLess q.path p||q.path==p)=!r by rw[Vn,leq_str,hr]);clear hr;obtain⟨W0,hW0⟩:∃ W0,w.alloc (.cells #[.string ⟨q.path.toArray⟩,v] 43)=W0:=⟨_,rfl⟩;have y0:=(St.nil w).alloc 43 #[.string ⟨q.path.toArray⟩,v];rw[hW0] at y0;have z0:Below w.heap.size w W0:=y0.below;have k1:=Xu q.path W0 hp (hg.below z0);rw[if_pos hm] at k1;have hb1:=Nat.lt_of_lt_of_le hb0 z0.size;have hbc1:=(z0.cell (p:=⟨b,o,none⟩) hb0).trans hbc;have hS:∀ W',Below W0.heap.size W0 W'→W'.cell? ⟨w.heap.size,0,none⟩=some (.string ⟨q.path.toArray⟩)∧W'.cell? ⟨w.heap.size,1,none⟩=some v∧W'.cell? ⟨b,o,none⟩=some (.string ⟨p.toArray⟩):=fun W' hb=>by have z:=y0.under hb;have b1:=z.blk;exact⟨b1.cell 0,b1.cell 1,(hb.cell hb1).trans hbc1⟩
 have HS:=Kd hS;have hv:=(h.below z0).lt;have x0:=(HS.out W0 (Below.refl _ _)).1;have Z0:=Kd z0;clear y0 hS z0 hg;have HN:=Kd hn;subst hvv;clear h hn;go_enter func45,ntmps45;go_wp2_with fail;refine k1.mono ?_;rintro e w1 ⟨⟨nm,rfl⟩,z1⟩;clear k1;go_wp2_with fail;clear hW0;refine wp_region_noPanic ?_;refine wp_region_held_drew (S:=(fun W'=>W'.cell? ⟨w.heap.size,0,none⟩=some (.string ⟨q.path.toArray⟩)∧W'.cell? ⟨w.heap.size,1,none⟩=some (.slice A n c)∧W'.cell? ⟨b,o,none⟩=some (.string ⟨p.toArray⟩))) (by kernel_rfl) ?_ (fun hH0=>?_)
 ·exact HS.out _ z1.drew
 refine tk 0 17 hH0 ?_;refine tk 1 18 hH0 ?_;refine tk 2 19 hH0 ?_;refine tk 3 20 hH0 ?_;refine tk 4 21 hH0 ?_;refine tk 5 22 hH0 ?_;refine tk 6 23 hH0 ?_;refine tk 7 24 hH0 ?_;refine tk 8 25 hH0 ?_;refine Zk [9] ?_;refine an 26 fun K hK=>?_
 go_simp;(
  with_reducible refine(Wh q.set _ _ _ (hv.keep (Qm.under z1.drew (fun _ hk=>hk.2))) hl).mono ?_
  rintro e w2 ⟨vc,rfl,b2,hc⟩;obtain⟨Ac,nc,cc,rfl⟩:=hc.shape
  have z2:Below W0.heap.size W0 w2:=z1.drew.trans (b2.mono z1.drew.size));go_wp2_with fail
 refine hK.out _ _ ?_ (fun hH1=>?_)
 ·exact HS.out _ z2
 clear hK K hH0
 try simp only[pu]
 refine Zk [10] ?_;refine an 27 fun K hK=>?_
 go_simp;(
  with_reducible refine(E1 q.set (Tm.Q9 q.set) _ _ _ _ _ (hv.keep (Qm.under z2 (fun _ hk=>hk.2))) hc hl).mono ?_
  rintro e w3 ⟨e3,b3⟩;rw[decide_eq_true heq] at e3;subst e3
  have z3:Below W0.heap.size W0 w3:=z2.trans (b3.mono z2.size));go_wp2_with fail
 refine hK.out _ _ ?_ (fun hH2=>?_)
 ·exact HS.out _ z3
 clear hK K hH1
 try simp only[pu]
 refine tk 11 28 hH2 ?_;refine tk 12 29 hH2 ?_;refine tk 13 30 hH2 ?_;refine tk 14 31 hH2 ?_;refine tk 15 32 hH2 ?_;refine tk 16 33 hH2 ?_;refine tk 17 34 hH2 ?_;refine tk 18 35 hH2 ?_;refine tk 19 36 hH2 ?_;refine tk 20 37 hH2 ?_;refine tk 21 38 hH2 ?_;refine tk 22 39 hH2 ?_;refine tk 23 40 hH2 ?_;refine tk 24 41 hH2 ?_;refine tk 25 42 hH2 ?_;refine dn ?_ _
 all_goals(refine NoPanic.normal ?_)
 rw[HBL.out]
 cases r
 all_goals
  have ZZ:=Kd (Z0.out.trans (z3.mono Z0.out.size));go_wp2;go_ret
  first
   |exact⟨rfl,ZZ.out⟩
   |exact⟨rfl,ZZ.out.drew⟩
theorem ckq0 (q:Tm.Qw) (v:Value) (u:Option Addr) (w:World) (hv:v.cells.size=1) (hp:q.path.length≤4294967000) (hg:Ji w) (hm:(Uz q.path).isSome=false):
 Calls prog 45 #[.agg #[.string ⟨q.path.toArray⟩,v],.pointer u] w fun e w'=>e=.returned (.int .i64 4)∧Below w.heap.size w w':=by
 obtain⟨W0,hW0⟩:∃ W0,w.alloc (.cells #[.string ⟨q.path.toArray⟩,v] 43)=W0:=⟨_,rfl⟩;have y0:=(St.nil w).alloc 43 #[.string ⟨q.path.toArray⟩,v];rw[hW0] at y0;have z0:Below w.heap.size w W0:=y0.below;have k1:=Xu q.path W0 hp (hg.below z0);rw[if_neg (by rw[hm];decide)] at k1;have x0:=y0.blk.cell 0;have Z0:=Kd z0;clear y0 z0 hg;go_enter func45,ntmps45;go_wp2_with fail;refine k1.mono ?_;rintro e w1 ⟨⟨nm,rfl⟩,z1⟩;have Z1:=Kd (Z0.out.trans (z1.mono Z0.out.size));clear k1 z1;go_wp2;go_ret;exact⟨rfl,Z1.out⟩
theorem creq_spec (q:Tm.Qw) (v:Value) (F:Nat→Prop) (bp:Option (Nat×Nat×Tm.Qk)) (w:World) (h:Qr w F v q.set) (hl:q.set.length≤4294967296) (hp:q.path.length≤4294967000) (hg:Ji w) (hb:ptrAt w bp):
 Calls prog 45 #[.agg #[.string ⟨q.path.toArray⟩,v],ptrV bp] w fun e w'=>e=.returned (.int .i64 (T2 q (bp.map (·.2.2))))∧Below w.heap.size w w':=by
 unfold T2
 have hu:∃ u,ptrV bp=.pointer u:=by
  cases bp with
  |none=>exact⟨_,rfl⟩
  |some x=>exact⟨_,rfl⟩
 cases hm:(Uz q.path).isSome with
 |false =>obtain⟨u,hu⟩:=hu;obtain⟨A,n,c,rfl⟩:=h.shape;rw[if_neg (by decide),hu];exact ckq0 q _ u w rfl hp hg hm
 | true=>
   rw[if_pos rfl]
   by_cases he:q.set=[]
   ·rw[if_pos he]
    obtain⟨u,hu⟩:=hu;rw[hu];exact ckqa1 q v F w h hl hp hg hm he u
   ·rw[if_neg he]
    by_cases heq:q.set=Tm.Q9 q.set
    ·rw[if_pos heq]
     cases bp with
     |none=>exact ckqa3 q v F w h hl hp hg hm he heq
     |some x =>obtain⟨b,o,p⟩:=x;exact ckqa4 q v F w h hl hp hg hm he heq b o p hb.1 hb.2
    ·rw[if_neg heq]
     obtain⟨u,hu⟩:=hu;rw[hu];exact ckqa2 q v F w h hl hp hg hm he heq u
def T4:Option Tm.Qk→List Tm.Qw→Int
 |_,[]=>0
 |b,q::l=>if T2 q b=0 then T4 (some q.path) l else T2 q b
def U5 (l:List Tm.Qw):Int:=if 16<l.length then 7 else T4 none l
def Zu (q:Tm.Qw):Prop:=q.set.length≤4294967296∧q.path.length≤4294967000
theorem Tz (q:Tm.Qw) (b:Option Tm.Qk):T2 q b=0∨T2 q b=1∨T2 q b=4:=by
 unfold T2
 split
 ·split
  ·exact .inr (.inl rfl)
  ·split
   ·split
    ·exact .inl rfl
    ·split
     ·exact .inl rfl
     ·exact .inr (.inl rfl)
   ·exact .inr (.inl rfl)
 ·exact .inr (.inr rfl)
theorem Yz (L:List Tm.Qw) (v:Value) (F:Nat→Prop) (w:World) (h:Qt w F v L) (hs:∀ q∈L,Zu q) (hg:Ji w):
 Calls prog 22 #[v] w fun e w'=>e=.returned (.int .i64 (U5 L))∧Below w.heap.size w w':=by
 obtain⟨A,c,M,rfl,rfl,hc1,hc2,hr,hm⟩:=h;obtain⟨N,hN⟩:∃ N,M.length=N:=⟨_,rfl⟩;have hcs:=fun j hj=>Jk hr (j:=j) hj;unfold U5;rw[List.length_map,hN]
 by_cases h16:16<N
 ·have g16:(16:Int)<(N:Int):=by omega
  rw[if_pos h16];clear hr hm hcs hs hg hc1 hc2;go_enter func22,ntmps22;go_wp2;go_ret;exact⟨rfl,Below.refl _ _⟩
 ·have g16:¬(16:Int)<(N:Int):=by omega
  rw[if_neg h16];obtain⟨res,hres⟩:∃ res,T4 none (M.map Prod.fst)=res:=⟨_,rfl⟩;rw[hres];have HM:=Kd5 hN hcs (fun m hmm=>(hm m hmm).lt) hs hg;have HR:=Kd hres;clear hr hm hcs hs hg hc1 hc2 hN hres;go_enter func22,ntmps22;go_wp2
  go_loopw [12,3] (fun i bv wr=>∃(k:Nat) (bp:Option (Nat×Nat×Tm.Qk)),k≤N∧i=.int .i64 k∧bv=ptrV bp∧Hid (ptrAt w bp)∧Hid (Below w.heap.size w wr)∧Hid (res=T4 (bp.map (·.2.2)) ((M.map Prod.fst).drop k))) (fun i _ _=>N-(intOf i).toNat)
  case atStart=>exact⟨0,none,Nat.zero_le _,rfl,rfl,Kd trivial,Kd (Below.refl _ _),Kd HR.out.symm⟩
  case round=>
   obtain⟨k,bp,hk,rfl,rfl,hbp,hb,hq⟩:=hrel
   by_cases hlt:k<N
   ·obtain⟨hN,hcs,hm,hs,hg⟩:=HM.out
    have hkM:k<M.length :=(by omega);obtain⟨b,off,rfl,hbl,c0,c1⟩:=hcs k hkM;have hc0:=c0;rw[←hb.out.cell (p:=⟨b,off+k*2,none⟩) hbl] at c0;rw[←hb.out.cell (p:=⟨b,off+k*2+1,none⟩) hbl] at c1;have hset:=hm M[k] (List.getElem_mem hkM);have hsm:=hs M[k].1 (List.mem_map.2 ⟨M[k],List.getElem_mem hkM,rfl⟩);have hdr:(M.map Prod.fst).drop k=M[k].1::(M.map Prod.fst).drop (k+1) :=(by rw[List.drop_eq_getElem_cons (by rw[List.length_map];exact hkM),List.getElem_map]);have hq:=hq.out;rw[hdr] at hq;generalize M[k]=x at c0 c1 hc0 hset hsm hq;obtain⟨q,v⟩:=x;dsimp only at c0 c1 hc0 hset hsm hq;obtain⟨W1,hW1⟩:∃ W1,wr.alloc (.cells #[.string ⟨q.path.toArray⟩,v] 43)=W1:=⟨_,rfl⟩;have y1:=(St.nil wr).alloc 43 #[.string ⟨q.path.toArray⟩,v];rw[hW1] at y1;have z1:Below w.heap.size w W1:=hb.out.trans (y1.below.mono hb.out.size);have x0:=y1.blk.cell 0;have x1:=y1.blk.cell 1
    have kq:=creq_spec q v _ bp W1 (hset.keep (Qm.under z1 (fun _ hk=>hk.2))) hsm.1 hsm.2 (hg.below z1) (by
     have:=hbp.out
     cases bp with
     |none=>trivial
     |some y=>exact⟨Nat.lt_of_lt_of_le this.1 z1.size,(z1.cell (p:=⟨y.1,y.2.1,none⟩) this.1).trans this.2⟩)
    obtain⟨A1,n1,c1',rfl⟩:=hset.shape;have i0:(0:Int)≤(k:Int):=Int.natCast_nonneg _;have i1:(k:Int)<(N:Int):=Int.ofNat_lt.2 hlt;have KL:=Kd hlt;have Z1:=Kd z1;have HB0:=Kd2 hbl hc0;have hrg:=Tz q (bp.map (·.2.2));unfold T4 at hq;generalize T2 q (bp.map (·.2.2))=r at kq hrg hq;have HX:=Kd hq;clear hN hcs hm hs hg hdr hset hsm z1 y1 hkM hbl hc0 hq;go_wp2_with fail;refine kq.mono ?_;rintro e w3 ⟨rfl,b3⟩;have B3:=Kd (Z1.out.trans (b3.mono Z1.out.size));clear kq b3;rcases hrg with rfl|rfl|rfl
    ·go_wp2
     go_roundw
     case rel=>exact⟨k+1,some (b,off+k*2,q.path),Nat.succ_le_of_lt KL.out,by go_num,rfl,Kd HB0.out,B3,Kd (HX.out.trans (if_pos (by trivial)))⟩
     case measure=>have:=KL.out;simp[intOf];omega
    ·obtain rfl:res=1:=HX.out.trans (if_neg (by decide))
     go_wp2;go_ret;exact⟨rfl,B3.out⟩
    ·obtain rfl:res=4:=HX.out.trans (if_neg (by decide))
     go_wp2;go_ret;exact⟨rfl,B3.out⟩
   ·obtain rfl:k=N:=Nat.le_antisymm hk (Nat.le_of_not_lt hlt)
    have hge:decide ((k:Int)<(k:Int))=false :=(by simp);obtain rfl:res=0 :=(by rw[hq.out,List.drop_eq_nil_of_le (by rw[List.length_map,HM.out.1];exact Nat.le_refl _)];rfl);go_wp2;go_ret;exact⟨rfl,hb.out⟩
def dig3 (s:Tm.Qk):Bool:=decide (s.length=0)||decide (s.length=32)
def V7 (r:Qi):Int:=match Uz r.path with
 |none=>4
 |some m=>if Mq r.major r.minor r.patch=true∧r.major=(m:Int) then (if U5 r.reqs=0 then (if [r.arch,r.iface,r.cert].all dig3=true then 0 else 1) else U5 r.reqs) else 2
structure SmallX (r:Qi):Prop where
 reqs:∀ q∈r.reqs,Zu q
 path:r.path.length≤4294967000
 arch:r.arch.length≤4294967000
 iface:r.iface.length≤4294967000
 cert:r.cert.length≤4294967000
theorem T3:∀(l:List Tm.Qw) (b:Option Tm.Qk),T4 b l=0∨T4 b l=1∨T4 b l=4
 |[],_=>.inl rfl
 | q::l,b=>by
   rw[T4]
   split
   ·exact T3 l _
   ·exact Tz q b
theorem Ty (l:List Tm.Qw):U5 l=0∨U5 l=1∨U5 l=4∨U5 l=7:=by
 unfold U5
 split
 ·exact .inr (.inr (.inr rfl))
 ·rcases T3 l none with h|h|h
  ·exact .inl h
  ·exact .inr (.inl h)
  ·exact .inr (.inr (.inl h))
theorem chkX_spec (r:Qi) (F:Nat→Prop) (w:World) (h:Qt w F r.rv r.reqs) (hs:SmallX r) (hg:Ji w):
 Calls prog 42 #[Fa r] w fun e w'=>e=.returned (.int .i64 (V7 r))∧Below w.heap.size w w':=by
 obtain⟨pa,ma,mi,pt,rq,rv,ar,ifc,ce,ya⟩:=r;obtain⟨h1,h2,h3,h4,h5⟩:=hs;unfold Fa Xi V7;dsimp only at h h1 h2 h3 h4 h5 ⊢;obtain⟨A,n,c,rfl⟩:∃ A n c,rv=.slice A n c:=by obtain⟨A,c,M,-,e,-⟩:=h;exact⟨A,_,c,e⟩
 obtain⟨W0,hW0⟩:∃ W0,w.alloc (.cells #[.string ⟨pa.toArray⟩,.int .i64 ma,.int .i64 mi,.int .i64 pt,.slice A n c,.string ⟨ar.toArray⟩,.string ⟨ifc.toArray⟩,.string ⟨ce.toArray⟩,.bool ya] 46)=W0:=⟨_,rfl⟩;have y0:=(St.nil w).alloc 46 #[.string ⟨pa.toArray⟩,.int .i64 ma,.int .i64 mi,.int .i64 pt,.slice A n c,.string ⟨ar.toArray⟩,.string ⟨ifc.toArray⟩,.string ⟨ce.toArray⟩,.bool ya];rw[hW0] at y0;have z0:Below w.heap.size w W0:=y0.below;have kl:=Xu pa W0 h2 (hg.below z0)
 have hS:∀ W,Below W0.heap.size W0 W→W.cell? ⟨w.heap.size,1,none⟩=some (.int .i64 ma)∧W.cell? ⟨w.heap.size,2,none⟩=some (.int .i64 mi)∧W.cell? ⟨w.heap.size,3,none⟩=some (.int .i64 pt)∧W.cell? ⟨w.heap.size,4,none⟩=some (.slice A n c)∧
  W.cell? ⟨w.heap.size,5,none⟩=some (.string ⟨ar.toArray⟩)∧W.cell? ⟨w.heap.size,6,none⟩=some (.string ⟨ifc.toArray⟩)∧W.cell? ⟨w.heap.size,7,none⟩=some (.string ⟨ce.toArray⟩):=fun W hb=>by
  have b1:=(y0.under hb).blk;exact⟨b1.cell 1,b1.cell 2,b1.cell 3,b1.cell 4,b1.cell 5,b1.cell 6,b1.cell 7⟩
 have x0:=y0.blk.cell 0;have kR:=fun W (hb:Below w.heap.size w W)=>Yz rq (.slice A n c) _ W (h.below hb) h1 (hg.below hb);have kV:=fun W=>Kg ma mi pt W;have HS:=Kd5 hS z0 h3 h4 h5;have KR:=Kd kR;have hrg:=Ty rq;clear y0 z0 hS kR h h1 h2 h3 h4 h5 hg;generalize Uz pa=mo at kl ⊢
 cases mo with
 |none =>rw[if_neg (by decide)] at kl;dsimp only;clear hrg;go_enter func42,ntmps42;go_wp2_with fail;refine kl.mono ?_;rintro e w1 ⟨⟨nm,rfl⟩,z1⟩;have Z1:=Kd (HS.out.2.1.trans (z1.mono HS.out.2.1.size));clear kl z1;go_wp2;go_ret;exact⟨rfl,Z1.out⟩
 | some m =>
   simp only[Option.isSome_some,if_true,Option.getD_some] at kl;dsimp only;generalize Mq ma mi pt=ok at kV ⊢;generalize U5 rq=rr at KR hrg ⊢;obtain⟨res,hres⟩:∃ res,(if ok=true∧ma=(m:Int) then (if rr=0 then (if [ar,ifc,ce].all dig3=true then (0:Int) else 1) else rr) else 2)=res:=⟨_,rfl⟩;rw[hres];have HR:=Kd hres;clear hres;go_enter func42,ntmps42;go_wp2_with fail;refine kl.mono ?_;rintro e w1 ⟨⟨nm,rfl⟩,z1⟩;obtain⟨c1,c2,c3,c4,c5,c6,c7⟩:=HS.out.1 w1 z1;have Z1:=Kd z1;clear kl z1 x0;go_wp2_with fail;refine(kV w1).mono ?_;rintro e w2 ⟨rfl,z2⟩;have Z2:=Kd (Z1.out.trans (z2.mono Z1.out.size));clear kV z2 c1 c2 c3 c4 c5 c6 c7;obtain⟨c1,c2,c3,c4,c5,c6,c7⟩:=HS.out.1 w2 Z2.out
   cases ok with
   | false=>
     obtain rfl:res=2:=by rw[←HR.out,if_neg (fun h=>by cases h.1)]
     clear hrg c2 c3 c4 c5 c6 c7;go_wp2;go_ret;exact⟨rfl,HS.out.2.1.trans (Z2.out.mono HS.out.2.1.size)⟩
   | true =>
     by_cases hma:ma=(m:Int)
     ·subst hma
      have hb2:Below w.heap.size w w2:=HS.out.2.1.trans (Z2.out.mono HS.out.2.1.size);have kr:=KR.out w2 hb2;have HB2:=Kd hb2;have hmb:((m:Int)==(m:Int))=true:=beq_self_eq_true _;have hres:(if rr=0 then (if [ar,ifc,ce].all dig3=true then (0:Int) else 1) else rr)=res:=(if_pos (⟨rfl,rfl⟩:true=true∧(m:Int)=(m:Int))).symm.trans HR.out;clear hb2 c5 c6 c7;go_wp2_with fail;refine kr.mono ?_;rintro e w3 ⟨rfl,z3⟩;have B3:=Kd (HB2.out.trans (z3.mono HB2.out.size));have Z3:=Kd (Z2.out.trans (z3.mono Z2.out.size));clear kr z3 c1 c2 c3 c4 hmb;obtain⟨c1,c2,c3,c4,c5,c6,c7⟩:=HS.out.1 w3 Z3.out;clear c1 c2 c3 c4;rcases hrg with rfl|rfl|rfl|rfl
      ·rw [if_pos rfl] at hres
       have HQ:=Kd hres;clear hres;obtain⟨-,z0,h3,h4,h5⟩:=HS.out;obtain⟨W4,hW4⟩:∃ W4,w3.alloc (.cells #[.string ⟨ar.toArray⟩,.string ⟨ifc.toArray⟩,.string ⟨ce.toArray⟩] 9)=W4:=⟨_,rfl⟩;have bk:=Uc.new w3 9 #[.string ⟨ar.toArray⟩,.string ⟨ifc.toArray⟩,.string ⟨ce.toArray⟩];rw[hW4] at bk;have b4:Below w.heap.size w W4:=by rw[←hW4];exact B3.out.alloc B3.out.size _
       have hcs:∀(k:Nat) (x:Tm.Qk),[ar,ifc,ce][k]?=some x→W4.cell? ⟨w3.heap.size,k,none⟩=some (.string ⟨x.toArray⟩)∧x.length≤4294967000:=fun k x hx=>by
        match k,hx with
        |0,hx =>obtain rfl:=Option.some.inj hx;exact⟨bk.cell 0,h3⟩
        |1,hx =>obtain rfl:=Option.some.inj hx;exact⟨bk.cell 1,h4⟩
        |2,hx =>obtain rfl:=Option.some.inj hx;exact⟨bk.cell 2,h5⟩
       have hL3:[ar,ifc,ce].length=3:=rfl;generalize [ar,ifc,ce]=L3 at hcs HQ hL3;have HC:=Kd3 hcs b4 hL3;clear bk b4 hcs z0 h3 h4 h5 hL3;go_wp2
       go_loopw [43] (fun i wr=>∃(k:Nat),k≤3∧i=.int .i64 k∧wr=W4∧Hid (res=if (L3.drop k).all dig3=true then 0 else 1)) (fun i _=>3-(intOf i).toNat)
       case atStart=>exact⟨0,by decide,rfl,rfl,Kd HQ.out.symm⟩
       case round=>
        obtain⟨k,hk,rfl,rfl,hp⟩:=hrel
        by_cases hlt:k<3
        ·obtain⟨hcs,b4,hL3⟩:=HC.out
         have hkl:k<L3.length :=(by omega);obtain⟨x,hx⟩:∃ x,L3[k]?=some x:=⟨_,List.getElem?_eq_getElem hkl⟩;obtain⟨cx,hxl⟩:=hcs k x hx;have hp:=hp.out;rw[List.drop_eq_getElem_cons hkl,List.all_cons,(List.getElem?_eq_some_iff.1 hx).2] at hp;have hz:(⟨x.toArray⟩:ByteArray).size=x.length:=Zf x;unfold dig3 at hp;obtain⟨j,hj⟩:∃ j,x.length=j:=⟨_,rfl⟩;rw[hj] at hz hp hxl;have i0:(0:Int)≤(k:Int):=Int.natCast_nonneg _;have i1:(k:Int)<3 :=(by omega);have KL:=Kd hlt
         by_cases j0:j=0
         ·subst j0
          have HP:=Kd hp;clear hp hcs b4 hL3 hx hj hkl;go_wp2
          go_roundw
          case rel=>exact⟨k+1,Nat.succ_le_of_lt KL.out,by go_num,trivial,Kd (by have:=HP.out;simpa [dig3] using this)⟩
          case measure=>have:=KL.out;simp[intOf];omega
         ·have n0:((j:Int)==0)=false:=beq_eq_false_iff_ne.2 (by omega)
          by_cases j32:j=32
          ·subst j32
           have HP:=Kd hp;clear hp hcs b4 hL3 hx hj hkl n0 j0;go_wp2
           go_roundw
           case rel=>exact⟨k+1,Nat.succ_le_of_lt KL.out,by go_num,trivial,Kd (by have:=HP.out;simpa [dig3] using this)⟩
           case measure=>have:=KL.out;simp[intOf];omega
          ·have n1:((j:Int)==32)=false:=beq_eq_false_iff_ne.2 (by omega)
           obtain rfl:res=1:=by rw[hp,decide_eq_false j0,decide_eq_false j32];rfl
           clear hp hcs b4 hL3 hx hj hkl;go_wp2
           all_goals first
            | (go_ret
               exact⟨rfl,HC.out.2.1⟩)
            | (exfalso
               simp_all
               done)
            | (exfalso
               omega)
        ·obtain rfl:k=3:=Nat.le_antisymm hk (Nat.le_of_not_lt hlt)
         obtain rfl:res=0:=by rw[hp.out,List.drop_eq_nil_of_le (by rw[HC.out.2.2];exact Nat.le_refl _)];rfl
         have hge:decide ((3:Int)<(3:Int))=false :=(by simp);go_wp2;go_ret;exact⟨rfl,HC.out.2.1⟩
      ·obtain rfl:res=1:=by rw[←hres,if_neg (by decide)]
       clear hres;go_wp2;go_ret;exact⟨rfl,B3.out⟩
      ·obtain rfl:res=4:=by rw[←hres,if_neg (by decide)]
       clear hres;go_wp2;go_ret;exact⟨rfl,B3.out⟩
      ·obtain rfl:res=7:=by rw[←hres,if_neg (by decide)]
       clear hres;go_wp2;go_ret;exact⟨rfl,B3.out⟩
     ·obtain rfl:res=2:=by rw[←HR.out,if_neg (fun h=>hma h.2)]
      have hmb:(ma==(m:Int))=false:=beq_eq_false_iff_ne.2 hma;clear hrg c2 c3 c4 c5 c6 c7;go_wp2;go_ret;exact⟨rfl,HS.out.2.1.trans (Z2.out.mono HS.out.2.1.size)⟩
def Tf (r:Qi):Zy:=(r.path,r.major,r.minor,r.patch)
def Yg:Option Qi→List Qi→Int
 |_,[]=>0
 |none,r::l=>if V7 r=0 then Yg (some r) l else V7 r
 |some b,r::l=>if V7 r=0 then (if Tf b=Tf r then 5 else if 0<cmpR b r then 1 else Yg (some r) l) else V7 r
def Gc (X:List Qi):Int:=if 256<X.length then 7 else Yg none X
def Sb (bo:Option Qi) (r:Qi) (nxt:Int):Int:=match bo with
 |none=>nxt
 |some b=>if Tf b=Tf r then 5 else if 0<cmpR b r then 1 else nxt
theorem U4 (bo:Option Qi) (r:Qi) (l:List Qi):Yg bo (r::l)=if V7 r=0 then Sb bo r (Yg (some r) l) else V7 r:=by cases bo<;>rfl
structure RlAt (w:World) (b off:Nat) (r:Qi):Prop where
 c0:w.cell? ⟨b,off,none⟩=some (.string ⟨r.path.toArray⟩)
 c1:w.cell? ⟨b,off+1,none⟩=some (.int .i64 r.major)
 c2:w.cell? ⟨b,off+2,none⟩=some (.int .i64 r.minor)
 c3:w.cell? ⟨b,off+3,none⟩=some (.int .i64 r.patch)
 c4:w.cell? ⟨b,off+4,none⟩=some r.rv
 c5:w.cell? ⟨b,off+5,none⟩=some (.string ⟨r.arch.toArray⟩)
 c6:w.cell? ⟨b,off+6,none⟩=some (.string ⟨r.iface.toArray⟩)
 c7:w.cell? ⟨b,off+7,none⟩=some (.string ⟨r.cert.toArray⟩)
 c8:w.cell? ⟨b,off+8,none⟩=some (.bool r.yank)
theorem RlAt.below {w w':World} {b off B:Nat} {r:Qi} (h:RlAt w b off r) (hb:Below B w w') (hl:b<B):RlAt w' b off r:=
 ⟨(hb.cell hl).trans h.c0,(hb.cell hl).trans h.c1,(hb.cell hl).trans h.c2,(hb.cell hl).trans h.c3,(hb.cell hl).trans h.c4,(hb.cell hl).trans h.c5,(hb.cell hl).trans h.c6,(hb.cell hl).trans h.c7,(hb.cell hl).trans h.c8⟩
theorem Vo {w:World} {A:Option Addr} {F:Nat→Prop} {X:List Qi} (h:Z9 w F A (X.flatMap Xi)) {j:Nat} {r:Qi} (hj:X[j]?=some r):∃ b off,A=some ⟨b,off,none⟩∧b<w.heap.size∧RlAt w b (off+j*9) r:=by obtain⟨hl,e⟩:=List.getElem?_eq_some_iff.1 hj;obtain⟨b,off,e1,e2,h0,h1,h2,h3,h4,h5,h6,h7,h8⟩:=Ju h hl;rw[e] at h0 h1 h2 h3 h4 h5 h6 h7 h8;exact⟨b,off,e1,e2,h0,h1,h2,h3,h4,h5,h6,h7,h8⟩
theorem rlBlk (w:World) (r:Qi) (t:TypeId):RlAt (w.alloc (.cells (Xi r).toArray t)) w.heap.size 0 r:=by have b:=Uc.new w t (Xi r).toArray;exact⟨b.cell 0,b.cell 1,b.cell 2,b.cell 3,b.cell 4,b.cell 5,b.cell 6,b.cell 7,b.cell 8⟩
theorem chkX_range (r:Qi):V7 r=0∨V7 r=1∨V7 r=2∨V7 r=4∨V7 r=7:=by
 unfold V7;have h:=Ty r.reqs
 split
 ·exact .inr (.inr (.inr (.inl rfl)))
 ·split
  ·split
   ·split
    ·exact .inl rfl
    ·exact .inr (.inl rfl)
   ·rcases h with h|h|h|h
    ·exact .inl h
    ·exact .inr (.inl h)
    ·exact .inr (.inr (.inr (.inl h)))
    ·exact .inr (.inr (.inr (.inr h)))
  ·exact .inr (.inr (.inl rfl))
theorem Vk (X:List Qi) (v iv:Value) (F:Nat→Prop) (w:World) (h:Qx w F v X) (hs:∀ r∈X,SmallX r) (hiv:iv.cells.size=1) (hg:Ji w):
 Calls prog 21 #[.agg #[v,iv]] w fun e w'=>e=.returned (.int .i64 (Gc X))∧Below w.heap.size w w':=by
 obtain⟨A,c,rfl,hc1,hc2,hr,hq⟩:=h;obtain⟨N,hN⟩:∃ N,X.length=N:=⟨_,rfl⟩;unfold Gc;rw[hN];obtain⟨W0,hW0⟩:∃ W0,w.alloc (.cells #[.slice A N c,iv] 25)=W0:=⟨_,rfl⟩;have y0:=(St.nil w).alloc 25 #[.slice A N c,iv];rw[hW0] at y0;have x0:=y0.blk.cell 0
 by_cases h256:256<N
 ·have g16:(256:Int)<(N:Int):=by omega
  have Y0:=Kd y0.below;rw[if_pos h256];clear hr hq hs hg hc1 hc2 y0;go_enter func21,ntmps21;go_wp2;go_ret;exact⟨rfl,Y0.out⟩
 ·have g16:¬(256:Int)<(N:Int):=by omega
  rw[if_neg h256];obtain⟨res,hres⟩:∃ res,Yg none X=res:=⟨_,rfl⟩;rw[hres];have hS:∀ W,Below W0.heap.size W0 W→W.cell? ⟨w.heap.size,0,none⟩=some (.slice A N c):=fun W hb=>(y0.under hb).blk.cell 0;have HM:=Kd7 hN (fun j r (hj:X[j]?=some r)=>Vo hr hj) (fun r hr'=>hq r hr') hs hg hS y0.below;have HR:=Kd hres;clear hr hq hs hg hc1 hc2 hN hres y0 hS;go_enter func21,ntmps21;go_wp2
  go_loopw [14] (fun i wr=>∃(k:Nat) (bo:Option Qi),k≤N∧i=.int .i64 k∧Hid (bo=if k=0 then none else X[k-1]?)∧Hid (Below W0.heap.size W0 wr)∧Hid (res=Yg bo (X.drop k))) (fun i _=>N-(intOf i).toNat)
  case atStart=>exact⟨0,none,Nat.zero_le _,rfl,Kd rfl,Kd (Below.refl _ _),Kd HR.out.symm⟩
  case round=>
   obtain⟨k,bo,hk,rfl,hbo,hb,hq⟩:=hrel
   by_cases hlt:k<N
   ·obtain⟨hN,hcs,hrq,hs,hg,hS,hw0⟩:=HM.out
    obtain⟨r,hr⟩:∃ r,X[k]?=some r:=⟨_,List.getElem?_eq_getElem (by omega)⟩;obtain⟨b,off,rfl,hbl,ra⟩:=hcs k r hr;have hbw:Below w.heap.size w wr:=hw0.trans (hb.out.mono hw0.size);have ra:=ra.below hbw hbl;have xw:=hS wr hb.out;obtain⟨W1,hW1⟩:∃ W1,wr.alloc (.cells (Xi r).toArray 46)=W1:=⟨_,rfl⟩;have rb:=rlBlk wr r 46;rw[hW1] at rb;have z1:Below w.heap.size w W1 :=(by rw[←hW1];exact hbw.alloc hbw.size _);have kx:=chkX_spec r _ W1 ((hrq r (List.mem_of_getElem? hr)).keep (Qm.of_below (z1.mono (Nat.le_refl _)))) (hs r (List.mem_of_getElem? hr)) (hg.below z1);have hdr:X.drop k=r::X.drop (k+1) :=(by obtain⟨h1,h2⟩:=List.getElem?_eq_some_iff.1 hr;rw[List.drop_eq_getElem_cons h1,h2]);have hq:=hq.out;rw[hdr] at hq;have hrg:=chkX_range r
    have hn0:k=0∨∃ k' p,k=k'+1∧bo=some p∧X[k']?=some p:=by
     rcases Nat.eq_zero_or_pos k with h0|h0
     ·exact .inl h0
     ·obtain⟨k',rfl⟩:∃ k',k=k'+1:=⟨k-1,by omega⟩
      obtain⟨p,hp⟩:∃ p,X[k']?=some p:=⟨_,List.getElem?_eq_getElem (by omega)⟩;have:=hbo.out;rw[if_neg (by omega),Nat.add_sub_cancel,hp] at this;exact .inr ⟨k',p,rfl,this,hp⟩
    have hnx:∀(o:Option Qi),o=some r→Hid (o=if k+1=0 then none else X[k+1-1]?):=fun o ho=>Kd (by rw[if_neg (by omega),Nat.add_sub_cancel,hr,ho]);have hrs:=hrq r (List.mem_of_getElem? hr);obtain⟨A',n',c',hrv⟩:∃ A n c,r.rv=.slice A n c :=(by obtain⟨A,c,M,-,e,-⟩:=hrs;exact⟨A,_,c,e⟩);rw[U4] at hq;clear hdr hrs hr;have kr:=Te r;have kcm:=fun p=>Ii p r;have hkx:∀ p:Qi,Tf p=Tf r→True:=fun _ _=>trivial;generalize V7 r=rr at kx hrg hq;obtain⟨nxt,hnxt⟩:∃ nxt,Yg (some r) (X.drop (k+1))=nxt:=⟨_,rfl⟩;rw[hnxt] at hq;have HNT:=Kd hnxt;clear hnxt;have hl1:wr.heap.size<W1.heap.size :=(by rw[←hW1];simp);have HCS:=Kd3 hcs hS hrq;have HQ:=Kd hq;have HNX:=Kd hnx;have i0:(0:Int)≤(k:Int):=Int.natCast_nonneg _;have i1:(k:Int)<(N:Int):=Int.ofNat_lt.2 hlt;have KL:=Kd hlt;have HB:=Kd3 hbw z1 hb.out;obtain⟨pa,ma,mi,pt,rq,rv,ar,ifc,ce,ya⟩:=r;dsimp only at hrv;subst hrv;unfold Xi at hW1;unfold Fa Xi at kx kr kcm;obtain⟨a0,a1,a2,a3,a4,a5,a6,a7,a8⟩:=ra;have RB:=Kd rb;obtain⟨b0,b1,b2,b3,b4,b5,b6,b7,b8⟩:=rb;simp only[Nat.zero_add] at b1 b2 b3 b4 b5 b6 b7 b8;dsimp only at hW1 kx kr kcm a0 a1 a2 a3 a4 a5 a6 a7 a8 b0 b1 b2 b3 b4 b5 b6 b7 b8;have hmore:X[k]?=X[k]?:=rfl;clear hq hnx hbw z1 hS hw0 hcs hrq hs hg hN hmore hkx;go_wp2_with fail;refine kx.mono ?_;rintro e w2 ⟨rfl,z2⟩
    have HZ:=Kd (And.intro (HB.out.2.1.trans (z2.mono HB.out.2.1.size)) (And.intro (RB.out.below z2 hl1) (And.intro (show Below W0.heap.size W0 w2 from by
     have h1:Below W0.heap.size W0 W1:=by rw[←hW1];exact HB.out.2.2.alloc HB.out.2.2.size _
     exact h1.trans (z2.mono h1.size)) (Nat.lt_of_lt_of_le hl1 z2.size))))
    clear kx z2 b0 b1 b2 b3 b4 b5 b6 b7 b8;rcases hrg with rfl|rfl|rfl|rfl|rfl
    ·rcases hn0 with rfl|⟨k',p,hk',hbo',hp⟩
     ·have h0:res=nxt:=by
       have h1:=HQ.out;have h2:bo=none:=hbo.out;rw[h2] at h1;exact h1.trans (if_pos rfl)
      have H0:=Kd h0;clear h0 a0 a1 a2 a3 a4 a5 a6 a7 a8;go_wp2
      go_roundw
      case rel=>exact⟨1,some ⟨pa,ma,mi,pt,rq,.slice A' n' c',ar,ifc,ce,ya⟩,Nat.succ_le_of_lt KL.out,rfl,HNX.out _ rfl,Kd HZ.out.2.2.1,Kd (by rw[H0.out,←HNT.out])⟩
      case measure=>have:=KL.out;simp[intOf];omega
     ·have hk0:¬ k=0:=by omega
      have hkk:((k:Int)==0)=false:=beq_eq_false_iff_ne.2 (by omega);have wn:IntKind.i64.wrap ((k:Int)-1)=(k':Int) :=(by rw[IntKind.wrap_i64];omega);have j0:(0:Int)≤(k':Int):=Int.natCast_nonneg _;have j1:(k':Int)<(N:Int) :=(by omega);obtain⟨hcs,hS,hrq⟩:=HCS.out;obtain⟨b',off',eA,hbl',pw⟩:=hcs k' p hp;obtain⟨rfl,rfl,-⟩:=Addr.mk.inj (Option.some.inj eA);have pw:=pw.below HZ.out.1 hbl';have xw2:=hS w2 HZ.out.2.2.1;obtain⟨A2,n2,c2,hrv⟩:∃ A n c,p.rv=.slice A n c :=(by obtain⟨A,c,M,-,e,-⟩:=hrq p (List.mem_of_getElem? hp);exact⟨A,_,c,e⟩);obtain⟨W3,hW3⟩:∃ W3,w2.alloc (.cells (Xi p).toArray 46)=W3:=⟨_,rfl⟩;have pb:=rlBlk w2 p 46;have bw:=b1 w2 (.cells (Xi p).toArray 46);have hl3:w2.heap.size<W3.heap.size :=(by rw[←hW3];simp);rw[hW3] at pb bw;have rb3:=HZ.out.2.1.below bw HZ.out.2.2.2;have z3:Below w.heap.size w W3:=HZ.out.1.trans (bw.mono HZ.out.1.size);have z03:Below W0.heap.size W0 W3:=HZ.out.2.2.1.trans (bw.mono HZ.out.2.2.1.size);have hs0:res=Sb (some p) ⟨pa,ma,mi,pt,rq,.slice A' n' c',ar,ifc,ce,ya⟩ nxt :=(by have h1:=HQ.out;rw[hbo'] at h1;exact h1.trans (if_pos rfl));have kp:=Te p;have kc:=kcm p;have hgl:wr.heap.size<W3.heap.size:=Nat.lt_trans HZ.out.2.2.2 hl3;have hK:∀ W',Below W3.heap.size W3 W'→RlAt W' wr.heap.size 0 ⟨pa,ma,mi,pt,rq,.slice A' n' c',ar,ifc,ce,ya⟩∧RlAt W' w2.heap.size 0 p:=fun W' hb=>⟨rb3.below hb hgl,pb.below hb hl3⟩;obtain⟨pa',ma',mi',pt',rq',rv',ar',ifc',ce',ya'⟩:=p;dsimp only at hrv;subst hrv;unfold Xi at hW3;unfold Fa Xi at kp;unfold Sb at hs0;obtain⟨p0,p1,p2,p3,p4,p5,p6,p7,p8⟩:=pw;dsimp only at hW3 kp kc p0 p1 p2 p3 p4 p5 p6 p7 p8 hs0;generalize cmpR ⟨pa',ma',mi',pt',rq',.slice A2 n2 c2,ar',ifc',ce',ya'⟩ ⟨pa,ma,mi,pt,rq,.slice A' n' c',ar,ifc,ce,ya⟩=cm at kc hs0;have hK2:∀ W',Below W3.heap.size W3 W'→W'.cell? ⟨wr.heap.size,0,none⟩=some (.string ⟨pa.toArray⟩)∧W'.cell? ⟨wr.heap.size,1,none⟩=some (.int .i64 ma)∧W'.cell? ⟨wr.heap.size,2,none⟩=some (.int .i64 mi)∧W'.cell? ⟨wr.heap.size,3,none⟩=some (.int .i64 pt)∧W'.cell? ⟨wr.heap.size,4,none⟩=some (.slice A' n' c')∧W'.cell? ⟨wr.heap.size,5,none⟩=some (.string ⟨ar.toArray⟩)∧W'.cell? ⟨wr.heap.size,6,none⟩=some (.string ⟨ifc.toArray⟩)∧W'.cell? ⟨wr.heap.size,7,none⟩=some (.string ⟨ce.toArray⟩)∧W'.cell? ⟨wr.heap.size,8,none⟩=some (.bool ya)∧W'.cell? ⟨w2.heap.size,0,none⟩=some (.string ⟨pa'.toArray⟩)∧W'.cell? ⟨w2.heap.size,1,none⟩=some (.int .i64 ma')∧W'.cell? ⟨w2.heap.size,2,none⟩=some (.int .i64 mi')∧W'.cell? ⟨w2.heap.size,3,none⟩=some (.int .i64 pt')∧W'.cell? ⟨w2.heap.size,4,none⟩=some (.slice A2 n2 c2)∧W'.cell? ⟨w2.heap.size,5,none⟩=some (.string ⟨ar'.toArray⟩)∧W'.cell? ⟨w2.heap.size,6,none⟩=some (.string ⟨ifc'.toArray⟩)∧W'.cell? ⟨w2.heap.size,7,none⟩=some (.string ⟨ce'.toArray⟩)∧W'.cell? ⟨w2.heap.size,8,none⟩=some (.bool ya'):=fun W' hb=>by obtain⟨r0,q0⟩:=hK W' hb;exact⟨r0.c0,r0.c1,r0.c2,r0.c3,r0.c4,r0.c5,r0.c6,r0.c7,r0.c8,q0.c0,q0.c1,q0.c2,q0.c3,q0.c4,q0.c5,q0.c6,q0.c7,q0.c8⟩
      have HK:=Kd hK2;have Z3:=Kd2 z3 z03;have HS0:=Kd hs0;have y0:=Below.refl W3.heap.size W3;have hgd:=Po;have heq:=eql_sel pa' pa ma' mi' pt' ma mi pt;clear hcs hS hrq eA hbl' pb bw hl3 rb3 z3 z03 hs0 hgl hK hK2 hp hbo' a0 a1 a2 a3 a4 a5 a6 a7 a8 hk' kcm;obtain⟨dk,hdk⟩:∃ dk,decide ((pa',ma',mi',pt')=(pa,ma,mi,pt))=dk:=⟨_,rfl⟩;rw[hdk] at heq;have HDK:=Kd hdk;clear hdk;go_wp2_with fail;clear hW3;refine wp_region_noPanic ?_;refine wp_region_held_drew (S:=(fun W'=>W'.cell? ⟨wr.heap.size,0,none⟩=some (.string ⟨pa.toArray⟩)∧W'.cell? ⟨wr.heap.size,1,none⟩=some (.int .i64 ma)∧W'.cell? ⟨wr.heap.size,2,none⟩=some (.int .i64 mi)∧W'.cell? ⟨wr.heap.size,3,none⟩=some (.int .i64 pt)∧W'.cell? ⟨wr.heap.size,4,none⟩=some (.slice A' n' c')∧W'.cell? ⟨wr.heap.size,5,none⟩=some (.string ⟨ar.toArray⟩)∧W'.cell? ⟨wr.heap.size,6,none⟩=some (.string ⟨ifc.toArray⟩)∧W'.cell? ⟨wr.heap.size,7,none⟩=some (.string ⟨ce.toArray⟩)∧W'.cell? ⟨wr.heap.size,8,none⟩=some (.bool ya)∧W'.cell? ⟨w2.heap.size,0,none⟩=some (.string ⟨pa'.toArray⟩)∧W'.cell? ⟨w2.heap.size,1,none⟩=some (.int .i64 ma')∧W'.cell? ⟨w2.heap.size,2,none⟩=some (.int .i64 mi')∧W'.cell? ⟨w2.heap.size,3,none⟩=some (.int .i64 pt')∧W'.cell? ⟨w2.heap.size,4,none⟩=some (.slice A2 n2 c2)∧W'.cell? ⟨w2.heap.size,5,none⟩=some (.string ⟨ar'.toArray⟩)∧W'.cell? ⟨w2.heap.size,6,none⟩=some (.string ⟨ifc'.toArray⟩)∧W'.cell? ⟨w2.heap.size,7,none⟩=some (.string ⟨ce'.toArray⟩)∧W'.cell? ⟨w2.heap.size,8,none⟩=some (.bool ya'))) (by kernel_rfl) ?_ (fun hH0=>?_)
      ·exact HK.out _ y0.drew
      refine tk 0 32 hH0 ?_;refine tk 2 34 hH0 ?_;refine Zk [1] ?_;refine an 33 fun K hK=>?_
      go_simp;(
       with_reducible refine(kp _).mono ?_
       rintro e w4 ⟨rfl,q4⟩;have y1:Below W3.heap.size W3 w4:=by first|exact y0.trans (q4.mono y0.size)|exact y0.drew.trans (q4.mono y0.drew.size)
       clear q4);go_wp2_with fail
      refine hK.out _ _ ?_ (fun hH1=>?_)
      ·exact HK.out _ y1
      clear hK K hH0
      try simp only[pu]
      refine Zk [3] ?_;refine an 35 fun K hK=>?_
      go_simp;(
       with_reducible refine(kr _).mono ?_
       rintro e w5 ⟨rfl,q5⟩;have y2:Below W3.heap.size W3 w5:=by first|exact y1.trans (q5.mono y1.size)|exact y1.drew.trans (q5.mono y1.drew.size)
       clear q5);go_wp2_with fail
      refine hK.out _ _ ?_ (fun hH2=>?_)
      ·exact HK.out _ y2
      clear hK K hH1
      try simp only[pu]
      refine tk 4 36 hH2 ?_;refine dn ?_ _
      all_goals(refine NoPanic.normal ?_)
      have Y2:=Kd2 (Z3.out.1.trans (y2.mono Z3.out.1.size)) (Z3.out.2.trans (y2.mono Z3.out.2.size))
      cases dk with
      |true =>obtain rfl:res=5:=HS0.out.trans (if_pos (of_decide_eq_true HDK.out));clear y2 y1 kc;go_wp2;go_ret;exact⟨rfl,Y2.out.1⟩
      | false=>
        have hs1:res=if 0<cm then 1 else nxt:=HS0.out.trans (if_neg (of_decide_eq_false HDK.out));obtain⟨a0,a1,a2,a3,a4,a5,a6,a7,a8,p0,p1,p2,p3,p4,p5,p6,p7,p8⟩:=HK.out w5 y2;clear y2 y1
        by_cases hcm:0<cm
        ·obtain rfl:res=1:=hs1.trans (if_pos hcm)
         clear hs1;go_wp2_with fail;refine(kc w5).mono ?_;rintro e w6 ⟨rfl,q6⟩;have Y3:=Kd (Y2.out.1.trans (q6.mono Y2.out.1.size));clear q6 kc;go_wp2;go_ret;exact⟨rfl,Y3.out⟩
        ·have h0:res=nxt:=hs1.trans (if_neg hcm)
         have H0:=Kd h0;clear hs1 h0;go_wp2_with fail;refine(kc w5).mono ?_;rintro e w6 ⟨rfl,q6⟩;have Y3:=Kd (Y2.out.2.trans (q6.mono Y2.out.2.size));clear q6 kc;go_wp2
         go_roundw
         case rel=>exact⟨k+1,some ⟨pa,ma,mi,pt,rq,.slice A' n' c',ar,ifc,ce,ya⟩,Nat.succ_le_of_lt KL.out,by go_num,HNX.out _ rfl,Kd Y3.out,Kd (by rw[H0.out,←HNT.out])⟩
         case measure=>have:=KL.out;simp[intOf];omega
    ·obtain rfl:res=1:=HQ.out
     go_wp2;go_ret;exact⟨rfl,HZ.out.1⟩
    ·obtain rfl:res=2:=HQ.out
     go_wp2;go_ret;exact⟨rfl,HZ.out.1⟩
    ·obtain rfl:res=4:=HQ.out
     go_wp2;go_ret;exact⟨rfl,HZ.out.1⟩
    ·obtain rfl:res=7:=HQ.out
     go_wp2;go_ret;exact⟨rfl,HZ.out.1⟩
   ·obtain rfl:k=N:=Nat.le_antisymm hk (Nat.le_of_not_lt hlt)
    have hge:decide ((k:Int)<(k:Int))=false:=by simp
    obtain rfl:res=0:=by
     rw[hq.out,List.drop_eq_nil_of_le (by rw[HM.out.1];exact Nat.le_refl _)]
     cases bo<;>rfl
    go_wp2;go_ret;exact⟨rfl,HM.out.2.2.2.2.2.2.trans (hb.out.mono HM.out.2.2.2.2.2.2.size)⟩
def Bm (L:List Tm.Qw):Bool:=L.all fun q=>My q.set
def X5 (X:List Qi) (roots:List Tm.Qw):Bool:=decide (Gc X=0)&&(decide (U5 roots=0)&&(Bm roots&&X.all fun r=>Bm r.reqs))
def mD (M:List We) (j:Nat):We:=M.getD j (⟨[],[]⟩,.slice none 0 0)
theorem Eq {M:List We} {j:Nat} (h:j<M.length):mD M j=M[j]:=by unfold mD;rw[List.getD_eq_getElem?_getD,List.getElem?_eq_getElem h,Option.getD_some]
theorem upw1_spec (q:Tm.Qw) (v:Value) (F:Nat→Prop) (w:World) (h:Qr w F v q.set) (hl:q.set.length≤4294967296):
 Calls prog 46 #[.agg #[.string ⟨q.path.toArray⟩,v]] w fun e w'=>e=.returned (.bool (!My q.set))∧Below w.heap.size w w':=by
 obtain⟨W0,hW0⟩:∃ W0,w.alloc (.cells #[.string ⟨q.path.toArray⟩,v] 43)=W0:=⟨_,rfl⟩;have y0:=(St.nil w).alloc 43 #[.string ⟨q.path.toArray⟩,v];rw[hW0] at y0;have x1:=y0.blk.cell 1;have z0:Below w.heap.size w W0:=y0.below;have k:=I0 q.set v _ W0 (h.below z0) hl;obtain⟨A,n,c,rfl⟩:=h.shape;have Z0:=Kd z0;clear y0 z0 h;generalize My q.set=b at k ⊢;go_enter func46,ntmps46;go_wp2_with fail;refine k.mono ?_;rintro e w1 ⟨rfl,z1⟩;have Z1:=Kd (Z0.out.trans (z1.mono Z0.out.size));clear k z1;go_wp2;go_ret;exact⟨rfl,Z1.out⟩
theorem Lm (L:List Tm.Qw) (v:Value) (F:Nat→Prop) (w:World) (h:Qt w F v L) (hs:∀ q∈L,Zu q):
 Calls prog 23 #[v] w fun e w'=>e=.returned (.bool (Bm L))∧Below w.heap.size w w':=by
 obtain⟨A,c,M,rfl,rfl,hc1,hc2,hr,hm⟩:=h
 have k:=Vl 46 #[] (enters_of func46 (by kernel_rfl) rfl) A M.length c (fun j=>.string ⟨(mD M j).1.path.toArray⟩) (fun j=>(mD M j).2) (fun j=>!My (mD M j).1.set) w (Nat.le_trans hc1 hc2)
  (fun j hj=>by
    obtain⟨b,off,e,hb,c0,c1⟩:=Jk hr hj;rw[Eq hj]
    exact⟨b,off,e,hb,c0,c1⟩)
  (fun j W hj hb=>by
    rw[Eq hj]
    exact upw1_spec M[j].1 M[j].2 _ W ((hm M[j] (List.getElem_mem hj)).lt.keep (Qm.under hb (fun _ hk=>hk.2))) (hs _ (List.mem_map.2 ⟨M[j],List.getElem_mem hj,rfl⟩)).1)
 clear hr hm hc1 hc2;have hL:∀ b,Hh (fun j=>!My (mD M j).1.set) M.length b→Bm (M.map Prod.fst)=!b:=fun b hb=>by have h1:=hb.list (L:=M) (q:=fun m=>!My m.1.set) (fun j hj=>by rw[Eq hj]);rw[h1];unfold Bm;rw[List.all_map,List.not_any_eq_all_not];simp[Function.comp_def]
 obtain⟨res,hres⟩:∃ res,Bm (M.map Prod.fst)=res:=⟨_,rfl⟩;rw[hres] at hL ⊢;have HL:=Kd hL;clear hL hs hres;go_enter func23,ntmps23;go_wp2_with fail;refine k.mono ?_;rintro e w1 ⟨b,rfl,z1,hb⟩;obtain rfl:res=!b:=HL.out b hb;have Z1:=Kd z1;clear k z1 hb;go_wp2;go_ret;exact⟨rfl,Z1.out⟩
def Wp (X:List Qi):Prop:=∀ r∈X,SmallX r
def xD (X:List Qi) (j:Nat):Qi:=X.getD j ⟨[],0,0,0,[],.slice none 0 0,[],[],[],false⟩
theorem Uq {X:List Qi} {j:Nat} (h:j<X.length):xD X j=X[j]:=by unfold xD;rw[List.getD_eq_getElem?_getD,List.getElem?_eq_getElem h,Option.getD_some]
theorem Ci (r:Qi) (F:Nat→Prop) (w:World) (h:Qt w F r.rv r.reqs) (hs:∀ q∈r.reqs,Zu q):
 Calls prog 25 #[Fa r] w fun e w'=>e=.returned (.bool (!Bm r.reqs))∧Below w.heap.size w w':=by
 obtain⟨pa,ma,mi,pt,rq,rv,ar,ifc,ce,ya⟩:=r;unfold Fa Xi;dsimp only at h hs ⊢;obtain⟨A,n,c,rfl⟩:∃ A n c,rv=.slice A n c:=by obtain⟨A,c,M,-,e,-⟩:=h;exact⟨A,_,c,e⟩
 obtain⟨W0,hW0⟩:∃ W0,w.alloc (.cells #[.string ⟨pa.toArray⟩,.int .i64 ma,.int .i64 mi,.int .i64 pt,.slice A n c,.string ⟨ar.toArray⟩,.string ⟨ifc.toArray⟩,.string ⟨ce.toArray⟩,.bool ya] 46)=W0:=⟨_,rfl⟩;have y0:=(St.nil w).alloc 46 #[.string ⟨pa.toArray⟩,.int .i64 ma,.int .i64 mi,.int .i64 pt,.slice A n c,.string ⟨ar.toArray⟩,.string ⟨ifc.toArray⟩,.string ⟨ce.toArray⟩,.bool ya];rw[hW0] at y0;have x4:=y0.blk.cell 4;have z0:Below w.heap.size w W0:=y0.below;have k:=Lm rq _ _ W0 (h.below z0) hs;have Z0:=Kd z0;clear y0 z0 h hs;generalize Bm rq=b at k ⊢;go_enter func25,ntmps25;go_wp2_with fail;refine k.mono ?_;rintro e w1 ⟨rfl,z1⟩;have Z1:=Kd (Z0.out.trans (z1.mono Z0.out.size));clear k z1;go_wp2;go_ret;exact⟨rfl,Z1.out⟩
theorem Sr (X:List Qi) (roots:List Tm.Qw) (v iv u:Value) (F G:Nat→Prop) (w:World) (h:Qx w F v X) (h2:Qt w G u roots) (hs:Wp X) (hs2:∀ q∈roots,Zu q) (hiv:iv.cells.size=1) (hg:Ji w):
 Calls prog 6 #[.agg #[v,iv],u] w fun e w'=>e=.returned (.bool (X5 X roots))∧Below w.heap.size w w':=by
 obtain⟨A,n,c,rfl⟩:∃ A n c,v=.slice A n c:=by obtain⟨A,c,e,-⟩:=h;exact⟨A,_,c,e⟩
 obtain⟨A2,n2,c2,rfl⟩:∃ A n c,u=.slice A n c:=by obtain⟨A,c,M,-,e,-⟩:=h2;exact⟨A,_,c,e⟩
 obtain⟨W0,hW0⟩:∃ W0,w.alloc (.cells #[.slice A n c,iv] 25)=W0:=⟨_,rfl⟩;have y0:=(St.nil w).alloc 25 #[.slice A n c,iv];rw[hW0] at y0;have x0:=y0.blk.cell 0;have x1:=y0.blk.cell 1;have z0:Below w.heap.size w W0:=y0.below;have k1:=Vk X _ iv _ W0 (h.below z0) hs hiv (hg.below z0);have k2:=fun W (hb:Below w.heap.size w W)=>Yz roots _ _ W (h2.below hb) hs2 (hg.below hb);have k3:=fun W (hb:Below w.heap.size w W)=>Lm roots _ _ W (h2.below hb) hs2;have hX:=fun W (hb:Below W0.heap.size W0 W)=>(y0.under hb).blk.cell 0
 have k4:∀ W,Below w.heap.size w W→Calls prog 24 #[.slice A n c,.func (.func 25) #[] #[]] W fun e w'=>e=.returned (.bool (!X.all fun r=>Bm r.reqs))∧Below W.heap.size W w':=fun W hb=>by
  have hW:=h.below hb;obtain⟨A',c',e,hc1,hc2,hr,hm⟩:=hW;obtain⟨rfl,rfl,rfl⟩:=Value.slice.inj e
  have k:=cfRl_spec 25 #[] (enters_of func25 (by kernel_rfl) rfl) A X.length c (fun j=>.string ⟨(xD X j).path.toArray⟩) (fun j=>.int .i64 (xD X j).major) (fun j=>.int .i64 (xD X j).minor) (fun j=>.int .i64 (xD X j).patch) (fun j=>(xD X j).rv)
   (fun j=>.string ⟨(xD X j).arch.toArray⟩) (fun j=>.string ⟨(xD X j).iface.toArray⟩) (fun j=>.string ⟨(xD X j).cert.toArray⟩) (fun j=>.bool (xD X j).yank) (fun j=>!Bm (xD X j).reqs) W (Nat.le_trans hc1 hc2)
   (fun j hj=>by
     rw[Uq hj]
     exact Ju hr hj)
   (fun j W' hj hb'=>by
     rw[Uq hj]
     exact Ci X[j] _ W' ((hm X[j] (List.getElem_mem hj)).below hb') (hs _ (List.getElem_mem hj)).reqs)
  refine k.mono ?_;rintro e w' ⟨b,rfl,z,hb'⟩;refine⟨?_,z⟩;have h1:=hb'.list (L:=X) (q:=fun r=>!Bm r.reqs) (fun j hj=>by rw[Uq hj]);rw[h1,List.not_all_eq_any_not]
 unfold X5;generalize Gc X=r1 at k1 ⊢;generalize U5 roots=r2 at k2 ⊢;generalize Bm roots=b3 at k3 ⊢;generalize (X.all fun r=>Bm r.reqs)=b4 at k4 ⊢;have Z0:=Kd z0;have HX:=Kd hX;clear h h2 hs hs2 hg y0 z0 hX
 by_cases e1:r1=0
 ·subst e1
  by_cases e2:r2=0
  ·subst e2
   cases b3 with
   | true=>
     go_enter func6,ntmps6;go_wp2_with fail;refine k1.mono ?_;rintro e w1 ⟨rfl,z1⟩;have B1:=Kd (Z0.out.trans (z1.mono Z0.out.size));have Z1:=Kd z1;clear z1 k1;go_wp2_with fail;refine(k2 w1 B1.out).mono ?_;rintro e w2 ⟨rfl,z2⟩;have B2:=Kd (B1.out.trans (z2.mono B1.out.size));have Z2:=Kd (Z1.out.trans (z2.mono Z1.out.size));clear z2 k2;go_wp2_with fail;refine(k3 w2 B2.out).mono ?_;rintro e w3 ⟨rfl,z3⟩;have B3:=Kd (B2.out.trans (z3.mono B2.out.size));have Z3:=Kd (Z2.out.trans (z3.mono Z2.out.size));clear z3 k3;have x3:=HX.out w3 Z3.out;go_wp2_with fail;refine(k4 w3 B3.out).mono ?_;rintro e w4 ⟨rfl,z4⟩;have B4:=Kd (B3.out.trans (z4.mono B3.out.size));clear z4 k4
     cases b4
     all_goals
      go_wp2;go_ret;exact⟨rfl,B4.out⟩
   |false =>go_enter func6,ntmps6;go_wp2_with fail;refine k1.mono ?_;rintro e w1 ⟨rfl,z1⟩;have B1:=Kd (Z0.out.trans (z1.mono Z0.out.size));have Z1:=Kd z1;clear z1 k1;go_wp2_with fail;refine(k2 w1 B1.out).mono ?_;rintro e w2 ⟨rfl,z2⟩;have B2:=Kd (B1.out.trans (z2.mono B1.out.size));have Z2:=Kd (Z1.out.trans (z2.mono Z1.out.size));clear z2 k2;go_wp2_with fail;refine(k3 w2 B2.out).mono ?_;rintro e w3 ⟨rfl,z3⟩;have B3:=Kd (B2.out.trans (z3.mono B2.out.size));have Z3:=Kd (Z2.out.trans (z3.mono Z2.out.size));clear z3 k3;go_wp2;go_ret;exact⟨rfl,B3.out⟩
  ·have n2:(r2==0)=false:=beq_eq_false_iff_ne.2 e2
   rw[decide_eq_false e2];go_enter func6,ntmps6;go_wp2_with fail;refine k1.mono ?_;rintro e w1 ⟨rfl,z1⟩;have B1:=Kd (Z0.out.trans (z1.mono Z0.out.size));have Z1:=Kd z1;clear z1 k1;go_wp2_with fail;refine(k2 w1 B1.out).mono ?_;rintro e w2 ⟨rfl,z2⟩;have B2:=Kd (B1.out.trans (z2.mono B1.out.size));have Z2:=Kd (Z1.out.trans (z2.mono Z1.out.size));clear z2 k2;go_wp2;go_ret;exact⟨rfl,B2.out⟩
 ·have n1:(r1==0)=false:=beq_eq_false_iff_ne.2 e1
  rw[decide_eq_false e1];go_enter func6,ntmps6;go_wp2_with fail;refine k1.mono ?_;rintro e w1 ⟨rfl,z1⟩;have B1:=Kd (Z0.out.trans (z1.mono Z0.out.size));have Z1:=Kd z1;clear z1 k1;go_wp2;go_ret;exact⟨rfl,B1.out⟩
def O1 (r:Qi):Prop:=Mq r.major r.minor r.patch=true
def Jt (r:Qi):Int:=1000*r.minor+r.patch
theorem Cq (r:Qi) (w:World) (h:O1 r) (hc:r.rv.cells.size=1):Calls prog 54 #[Fa r] w fun e w'=>e=.returned (.int .i64 (Jt r))∧Below w.heap.size w w':=by obtain⟨pa,ma,mi,pt,rq,rv,ar,ifc,ce,ya⟩:=r;unfold Fa Xi Jt;unfold O1 at h;dsimp only at h hc ⊢;have k:=fun W=>Z6 ma mi pt W h;obtain⟨W0,hW0⟩:∃ W0,w.alloc (.cells #[.string ⟨pa.toArray⟩,.int .i64 ma,.int .i64 mi,.int .i64 pt,rv,.string ⟨ar.toArray⟩,.string ⟨ifc.toArray⟩,.string ⟨ce.toArray⟩,.bool ya] 46)=W0:=⟨_,rfl⟩;have y0:=(St.nil w).alloc 46 #[.string ⟨pa.toArray⟩,.int .i64 ma,.int .i64 mi,.int .i64 pt,rv,.string ⟨ar.toArray⟩,.string ⟨ifc.toArray⟩,.string ⟨ce.toArray⟩,.bool ya];rw[hW0] at y0;have x1:=y0.blk.cell 1;have x2:=y0.blk.cell 2;have x3:=y0.blk.cell 3;have Z0:=Kd y0.below;clear y0 h;generalize 1000*mi+pt=pl at k ⊢;go_enter func54,ntmps54;go_wp2_with fail;refine(k W0).mono ?_;rintro e w1 ⟨rfl,z1⟩;have Z1:=Kd (Z0.out.trans (z1.mono Z0.out.size));clear k z1;go_wp2;go_ret;exact⟨rfl,Z1.out⟩
def Wr (X:List Qi) (roots:List Tm.Qw):Bool:=decide (Gc X=0)&&decide (U5 roots=0)
theorem I7 (X:List Qi) (roots:List Tm.Qw) (v iv u:Value) (F G:Nat→Prop) (w:World) (h:Qx w F v X) (h2:Qt w G u roots) (hs:Wp X) (hs2:∀ q∈roots,Zu q) (hiv:iv.cells.size=1) (hg:Ji w):
 Calls prog 55 #[.agg #[v,iv],u] w fun e w'=>e=.returned (.bool (Wr X roots))∧Below w.heap.size w w':=by
 obtain⟨A,n,c,rfl⟩:∃ A n c,v=.slice A n c:=by obtain⟨A,c,e,-⟩:=h;exact⟨A,_,c,e⟩
 obtain⟨W0,hW0⟩:∃ W0,w.alloc (.cells #[.slice A n c,iv] 25)=W0:=⟨_,rfl⟩;have y0:=(St.nil w).alloc 25 #[.slice A n c,iv];rw[hW0] at y0;have x0:=y0.blk.cell 0;have x1:=y0.blk.cell 1;have z0:Below w.heap.size w W0:=y0.below;have k1:=Vk X _ iv _ W0 (h.below z0) hs hiv (hg.below z0);have k2:=fun W (hb:Below w.heap.size w W)=>Yz roots _ _ W (h2.below hb) hs2 (hg.below hb);unfold Wr;generalize Gc X=r1 at k1 ⊢;generalize U5 roots=r2 at k2 ⊢;have Z0:=Kd z0;clear h h2 hs hs2 hg y0 z0
 by_cases e1:r1=0
 ·subst e1
  by_cases e2:r2=0
  ·subst e2
   go_enter func55,ntmps55;go_wp2_with fail;refine k1.mono ?_;rintro e w1 ⟨rfl,z1⟩;have B1:=Kd (Z0.out.trans (z1.mono Z0.out.size));clear z1 k1;go_wp2_with fail;refine(k2 w1 B1.out).mono ?_;rintro e w2 ⟨rfl,z2⟩;have B2:=Kd (B1.out.trans (z2.mono B1.out.size));clear z2 k2;go_wp2;go_ret;exact⟨rfl,B2.out⟩
  ·have n2:(r2==0)=false:=beq_eq_false_iff_ne.2 e2
   rw[decide_eq_false e2];go_enter func55,ntmps55;go_wp2_with fail;refine k1.mono ?_;rintro e w1 ⟨rfl,z1⟩;have B1:=Kd (Z0.out.trans (z1.mono Z0.out.size));clear z1 k1;go_wp2_with fail;refine(k2 w1 B1.out).mono ?_;rintro e w2 ⟨rfl,z2⟩;have B2:=Kd (B1.out.trans (z2.mono B1.out.size));clear z2 k2;go_wp2;go_ret;exact⟨rfl,B2.out⟩
 ·have n1:(r1==0)=false:=beq_eq_false_iff_ne.2 e1
  rw[decide_eq_false e1];go_enter func55,ntmps55;go_wp2_with fail;refine k1.mono ?_;rintro e w1 ⟨rfl,z1⟩;have B1:=Kd (Z0.out.trans (z1.mono Z0.out.size));clear z1 k1;go_wp2;go_ret;exact⟨rfl,B1.out⟩
def Re (X:List Qi) (minimum:Int):List Nat→Int
 |[] => -1
 |i::L=>if minimum≤Jt (xD X i) then (i:Int) else Re X minimum L
def Q8 (L:List Nat):List Value:=L.map fun i:Nat=>Value.int .i64 (i:Int)
theorem intsAt {w:World} {F:Nat→Prop} {A:Option Addr} {L:List Nat} (h:Z9 w F A (Q8 L)) {j i:Nat} (hj:L[j]?=some i):∃ b off,A=some ⟨b,off,none⟩∧b<w.heap.size∧w.cell? ⟨b,off+j,none⟩=some (.int .i64 (i:Int)):=by
 obtain⟨hl,e⟩:=List.getElem?_eq_some_iff.1 hj;rcases h with h|⟨b,off,e1,_,h2,h3⟩
 ·unfold Q8 at h
  rw[List.map_eq_nil_iff] at h;rw[h] at hl
  cases hl
 ·refine⟨b,off,e1,h2,?_⟩
  rw[h3 j (by simpa [Q8] using hl)];simp[Q8,e]
theorem Ck (X:List Qi) (L:List Nat) (minimum:Int) (g:Nat) (v:Value) (A:Option Addr) (c:Nat) (F G:Nat→Prop) (w:World) (hx:Qx w F v X) (hg:w.cell? ⟨g,0,none⟩=some v) (hl:Z9 w G A (Q8 L)) (hL:L.length≤1048576) (hi:∀ i∈L,i<X.length) (hX:∀ r∈X,O1 r) (hX2:X.length≤1048576):
 Calls prog 30 #[.pointer (some ⟨g,0,none⟩),.slice A L.length c,.int .i64 minimum] w fun e w'=>e=.returned (.int .i64 (Re X minimum L))∧Below w.heap.size w w':=by
 obtain⟨A2,c2,rfl,-,-,hr,hq⟩:=hx;obtain⟨N,hN⟩:∃ N,L.length=N:=⟨_,rfl⟩;obtain⟨M,hM⟩:∃ M,X.length=M:=⟨_,rfl⟩;rw[hN] at hL ⊢;rw[hM] at hg hX2;obtain⟨res,hres⟩:∃ res,Re X minimum L=res:=⟨_,rfl⟩;rw[hres];have hgl:=World.block_lt_of_cell? w _ hg;have HM:=Kd9 hN hM (fun j i (hj:L[j]?=some i)=>intsAt hl hj) (fun j r (hj:X[j]?=some r)=>Vo hr hj) hi hX hg hgl hq;have HR:=Kd hres;clear hN hM hl hr hi hX hg hgl hres hq;go_enter func30,ntmps30;go_wp2
 go_loopw [11] (fun i wr=>∃(k:Nat),k≤N∧i=.int .i64 k∧Hid (Below w.heap.size w wr)∧Hid (res=Re X minimum (L.drop k))) (fun i _=>N-(intOf i).toNat)
 case atStart=>exact⟨0,Nat.zero_le _,rfl,Kd (Below.refl _ _),Kd HR.out.symm⟩
 case round=>
  obtain⟨k,hk,rfl,hb,hp⟩:=hrel
  by_cases hlt:k<N
  ·obtain⟨hN,hM,hcs,hrs,hi,hX,hg,hgl,hq⟩:=HM.out
   obtain⟨i,hik⟩:∃ i,L[k]?=some i:=⟨_,List.getElem?_eq_getElem (by omega)⟩;have hiM:=hi i (List.mem_of_getElem? hik);obtain⟨r,hr⟩:∃ r,X[i]?=some r:=⟨_,List.getElem?_eq_getElem hiM⟩;have hxr:xD X i=r :=(by rw[Uq hiM];exact(List.getElem?_eq_some_iff.1 hr).2);obtain⟨b,off,rfl,hbl,ci⟩:=hcs k i hik;obtain⟨b',off',rfl,hbl',ra⟩:=hrs i r hr;rw[←hb.out.cell (p:=⟨b,off+k,none⟩) hbl] at ci;have ra:=ra.below hb.out hbl';rw[←hb.out.cell (p:=⟨g,0,none⟩) hgl] at hg;have hrv:r.rv.cells.size=1 :=(by obtain⟨A,c,M,-,e,-⟩:=hq r (List.mem_of_getElem? hr);rw[e];rfl);have kp:=Cq r wr (hX r (List.mem_of_getElem? hr)) hrv;have hp:=hp.out;obtain⟨h1,h2⟩:=List.getElem?_eq_some_iff.1 hik;rw[List.drop_eq_getElem_cons h1,h2,Re,hxr] at hp;generalize Jt r=pl at kp hp;unfold Fa Xi at kp;obtain⟨pa,ma,mi,pt,rq,rv,ar,ifc,ce,ya⟩:=r;dsimp only at kp hrv;obtain⟨a0,a1,a2,a3,a4,a5,a6,a7,a8⟩:=ra;dsimp only at a0 a1 a2 a3 a4 a5 a6 a7 a8;have i0:(0:Int)≤(k:Int):=Int.natCast_nonneg _;have i1:(k:Int)<(N:Int):=Int.ofNat_lt.2 hlt;have i2:(0:Int)≤(i:Int):=Int.natCast_nonneg _;have i3:(i:Int)<(M:Int) :=(by omega);have KL:=Kd hlt;have HP:=Kd hp;clear hN hM hcs hrs hi hX hgl hq hp hxr h1 h2 hik hr hiM;go_wp2_with fail;refine kp.mono ?_;rintro e w1 ⟨rfl,z1⟩;have B1:=Kd (hb.out.trans (z1.mono hb.out.size));clear kp z1
   by_cases hge:minimum≤pl
   ·obtain rfl:res=(i:Int):=HP.out.trans (if_pos hge)
    go_wp2;go_ret;exact⟨rfl,B1.out⟩
   ·have HQ:=Kd (HP.out.trans (if_neg hge))
    go_wp2
    go_roundw
    case rel=>exact⟨k+1,Nat.succ_le_of_lt KL.out,by go_num,B1,Kd HQ.out⟩
    case measure=>have:=KL.out;simp[intOf];omega
  ·obtain rfl:k=N:=Nat.le_antisymm hk (Nat.le_of_not_lt hlt)
   have hge:decide ((k:Int)<(k:Int))=false :=(by simp);obtain rfl:res = -1 :=(by rw[hp.out,List.drop_eq_nil_of_le (by rw[HM.out.1];exact Nat.le_refl _)];rfl);go_wp2;go_ret;exact⟨rfl,hb.out⟩
theorem Zz.permR {w:World} {Rs Rs':List Q3} (hp:Rs.Perm Rs'):∀ {U:Nat→Prop},Zz w Rs U→Zz w Rs' U:=by
 induction hp with
 |nil=>exact fun h=>h
 |cons R _ ih=>exact fun h=>h.cons (fun V hv=>ih hv)
 |swap R S l=>exact fun h=>h.swap
 |trans _ _ ih1 ih2=>exact fun h=>ih2 (ih1 h)
theorem St.permR {lo:Nat} {w0 w:World} {Rs Rs':List Q3} (h:St lo w0 w Rs) (hp:Rs.Perm Rs'):St lo w0 w Rs':=⟨h.below,h.base,h.held.permR hp⟩
structure Hg where
 path:Tm.Qk
 v:Value
 ps:List Nat
def prR (e:Hg):Q3:=Qh 3 1 e.v e.ps.length (Q8 e.ps)
def Rd (M:Lit→Option Value) (R:List Hg):Prop:=R.Pairwise (fun a b=>a.path≠b.path)∧∀ s:Tm.Qk,M (.string s)=(R.find? fun e=>decide (e.path=s)).map (·.v)
def curV (R:List Hg) (p:Tm.Qk):Value:=match R.find? fun e=>decide (e.path=p) with
 |some e=>e.v
 |none=>.slice none 0 0
def Ig (R:List Hg) (p:Tm.Qk):List Nat:=match R.find? fun e=>decide (e.path=p) with
 |some e=>e.ps
 |none=>[]
def Fw (R:List Hg) (p:Tm.Qk):List Hg:=R.filter fun e=>!decide (e.path=p)
theorem Rd.look {M:Lit→Option Value} {R:List Hg} (h:Rd M R) (p:Tm.Qk):(M (.string p)).getD (.slice none 0 0)=curV R p:=by
 rw[h.2 p];unfold curV
 cases R.find? fun e=>decide (e.path=p)<;>rfl
theorem Cl:∀ {R:List Hg} {p:Tm.Qk} {e:Hg},R.Pairwise (fun a b=>a.path≠b.path)→R.find? (fun e=>decide (e.path=p))=some e→R.Perm (e::Fw R p)
 |[],_,_,_,h=>by cases h
 | a::R,p,e,hn,h=>by
   obtain⟨h1,h2⟩:=List.pairwise_cons.1 hn;unfold Fw;rw[List.filter_cons]
   by_cases ha:a.path=p
   ·rw[List.find?_cons,decide_eq_true ha] at h
    obtain rfl:=Option.some.inj h;rw[decide_eq_true ha];have:R.filter (fun e=>!decide (e.path=p))=R:=List.filter_eq_self.2 fun x hx=>by have:=h1 x hx;simp;intro e;exact this (by rw[ha,e])
    rw[this];exact List.Perm.refl _
   ·rw[List.find?_cons,decide_eq_false ha] at h
    rw[decide_eq_false ha];exact((Cl h2 h).cons a).trans (List.Perm.swap _ _ _)
theorem off_none {R:List Hg} {p:Tm.Qk} (h:R.find? (fun e=>decide (e.path=p))=none):Fw R p=R:=List.filter_eq_self.2 fun x hx=>by have:=List.find?_eq_none.1 h x hx;simpa using this
theorem St.takeRow {lo:Nat} {w0 w:World} {Rs:List Q3} {R:List Hg} (h:St lo w0 w (Rs++R.map prR)) (hn:R.Pairwise fun a b=>a.path≠b.path) (p:Tm.Qk):
 St lo w0 w (Qh 3 1 (curV R p) (Ig R p).length (Q8 (Ig R p))::(Rs++(Fw R p).map prR)):=by
 unfold curV Ig
 cases hf:R.find? (fun e=>decide (e.path=p)) with
 |none =>rw[off_none hf];exact h.new_own (Below.refl _ w) ⟨rfl,.inl ⟨rfl,rfl⟩⟩
 |some e =>refine h.permR ?_;have h1:=(Cl hn hf).map prR;exact(h1.append_left Rs).trans List.perm_middle
theorem Rd.put {M:Lit→Option Value} {R:List Hg} (h:Rd M R) (p:Tm.Qk) (v:Value) (ps:List Nat):Rd (Jq M (.string p) v) (⟨p,v,ps⟩::Fw R p):=by
 refine⟨List.pairwise_cons.2 ⟨fun e he=>?_,h.1.filter _⟩,fun s=>?_⟩
 ·have:=(List.mem_filter.1 he).2
  simp at this;exact fun e=>this e.symm
 ·rw[List.find?_cons]
  by_cases hs:s=p
  ·subst hs
   rw[Zd,decide_eq_true rfl];rfl
  ·rw[Qz (fun e=>hs (Lit.string.inj e)),decide_eq_false (fun e=>hs e.symm),h.2 s]
   congr 1
   unfold Fw;rw[List.find?_filter]
   congr 1
   funext e
   by_cases he:e.path=s
   ·simp[he,hs]
   ·simp[he]
theorem Dg (w:World):(zeroValue 54).run prog w=.ok (.slice none 0 0) w:=by kernel_rfl
theorem X4 {lo:Nat} {w0 w:World} {Rs:List Q3} {kt e:TypeId} {b n:Nat} {M:Lit→Option Value} {ops:Array Oper} {o:Oper} {a:Act} {K:Act→World→Prop} {Q:Exit→Act→World→Prop} {E:Prop} {key val:Value} {kl:Lit}
 (t:TypeId) (h:St lo w0 w (Zw kt b n M::Rs)) (Ky:Maps.Keyed prog kt) (ht:prog.underlying t=some (.map kt e)) (hgd:o.guard=none) (m x v:Operand) (hop:o.op=Op.mapUpdate t m x v)
 (hm:a.eval m=.map (some b)) (hn:n<maxLen) (hx:a.eval x=key) (hv:a.eval v=val) (hkey:keyOf prog kt key=some kl)
 (hK:∀ w',St lo w0 w' (Zw kt b (n+1) (Jq M kl val)::Rs)→K (a.put o.dst undef) w'):
 if Region.wanted o (yielded ops a.tmps)=true then Oper.wp prog o a w K Q else E:=by
 rw[if_pos (by unfold Region.wanted;rw[hgd])];obtain⟨w',hrun,h'⟩:=h.mput t Ky ht hn hkey val;unfold Oper.wp;simp[execOp,hop,hm,hx,hv,hrun,Result.andThen];exact hK w' h'
def J3 (X:List Qi) (p:Tm.Qk):Nat→List Nat
 |0=>[]
 | k+1=>match X[k]? with
   |some r=>if r.path=p∧r.yank=false then J3 X p k++[k] else J3 X p k
   |none=>J3 X p k
def D6 (X:List Qi) (k:Nat) (R:List Hg):Prop:=∀ p,Ig R p=J3 X p k
theorem curP_put (R:List Hg) (p:Tm.Qk) (v:Value) (ps:List Nat) (s:Tm.Qk):Ig (⟨p,v,ps⟩::Fw R p) s=if s=p then ps else Ig R s:=by
 unfold Ig;rw[List.find?_cons]
 by_cases hs:s=p
 ·subst hs
  rw[decide_eq_true rfl,if_pos rfl]
 ·rw[decide_eq_false (fun e=>hs e.symm),if_neg hs]
  have:(Fw R p).find? (fun e=>decide (e.path=s))=R.find? (fun e=>decide (e.path=s)):=by
   unfold Fw;rw[List.find?_filter]
   congr 1
   funext e
   by_cases he:e.path=s
   ·simp[he,hs]
   ·simp[he]
  rw[this]
theorem D6.step {X:List Qi} {k:Nat} {R:List Hg} (h:D6 X k R) {r:Qi} (hr:X[k]?=some r) (hy:r.yank=false) (v:Value):D6 X (k+1) (⟨r.path,v,Ig R r.path++[k]⟩::Fw R r.path):=fun p=>by
 rw[curP_put,J3,hr];dsimp only
 by_cases hp:p=r.path
 ·rw[if_pos hp,if_pos ⟨hp.symm,hy⟩,h r.path,hp]
 ·rw[if_neg hp,if_neg (fun e=>hp e.1.symm),h p]
theorem D6.skip {X:List Qi} {k:Nat} {R:List Hg} (h:D6 X k R) {r:Qi} (hr:X[k]?=some r) (hy:r.yank=true):D6 X (k+1) R:=fun p=>by rw[J3,hr];dsimp only;rw[if_neg (fun e=>by rw[hy] at e;cases e.2),h p]
theorem Gj (X:List Qi) (p:Tm.Qk):∀ k,(J3 X p k).length≤k∧∀ i∈J3 X p k,i<k
 |0=>⟨Nat.le_refl _,fun _ h=>by cases h⟩
 | k + 1=>by
   obtain⟨h1,h2⟩:=Gj X p k;unfold J3
   split
   ·split
    ·refine⟨by rw[List.length_append,List.length_singleton];omega,fun i hi=>?_⟩
     rcases List.mem_append.1 hi with hi|hi
     ·have:=h2 i hi
      omega
     ·rw[List.mem_singleton.1 hi]
      omega
    ·exact⟨by omega,fun i hi=>by have:=h2 i hi;omega⟩
   ·exact⟨by omega,fun i hi=>by have:=h2 i hi;omega⟩
theorem M5 (X:List Qi) (v iv:Value) (F:Nat→Prop) (w:World) (h:Qx w F v X) (hs:Wp X) (hX:X.length≤1048576) (hiv:iv.cells.size=1):
 Calls prog 51 #[.agg #[v,iv]] w fun e w'=>∃ g mb n M R,e=.returned (.pointer (some ⟨g,0,none⟩))∧Rd M R∧D6 X X.length R∧
  St w.heap.size w w' ([Qa g 108 #[v,.map (some mb)],Zw 9 mb n M]++R.map prR):=by
 obtain⟨A,c,rfl,-,-,hr,hq⟩:=h;obtain⟨N,hN⟩:∃ N,X.length=N:=⟨_,rfl⟩;rw[hN] at hX ⊢;have y0:=(((St.nil w).alloc 25 #[.slice A N c,iv]).mpMade 9).alloc 108 #[.slice A N c,.map (some (w.heap.size+1))];simp only[World.size_alloc] at y0;have hmm:=@run_makeMap prog;have HM:=Kd4 hN (fun j r (hj:X[j]?=some r)=>Vo hr hj) hs hq;have Y0:=Kd y0;have x0:=(y0.rot.rot).blk.cell 0;clear hN hr hs hq y0;go_enter func51,ntmps51;go_wp2
 go_loopw [14] (fun i wr=>∃(k n:Nat) (M:Lit→Option Value) (R:List Hg),k≤N∧i=.int .i64 k∧n≤k∧Hid (Rd M R∧D6 X k R)∧Hid (St w.heap.size w wr ([Qa (w.heap.size+1+1) 108 #[.slice A N c,.map (some (w.heap.size+1))],Zw 9 (w.heap.size+1) n M]++R.map prR))) (fun i _=>N-(intOf i).toNat)
 case atStart=>exact⟨0,0,fun _=>none,[],Nat.zero_le _,rfl,Nat.le_refl _,Kd ⟨⟨List.Pairwise.nil,fun _=>rfl⟩,fun _=>rfl⟩,Kd (Y0.out.pk [0,1])⟩
 case round=>
  obtain⟨k,n,M,R,hk,rfl,hn,hR,hst⟩:=hrel
  by_cases hlt:k<N
  ·obtain⟨hN,hcs,hs,hq⟩:=HM.out
   obtain⟨r,hr⟩:∃ r,X[k]?=some r:=⟨_,List.getElem?_eq_getElem (by omega)⟩;obtain⟨b,off,rfl,hbl,ra⟩:=hcs k r hr;have ra:=ra.below hst.out.below hbl;obtain⟨A',n',c',hrv⟩:∃ A n c,r.rv=.slice A n c:=by obtain⟨A,c,M,-,e,-⟩:=hq r (List.mem_of_getElem? hr);exact⟨A,_,c,e⟩
   have hpl:=(hs r (List.mem_of_getElem? hr)).path;have hstep:=fun v hy=>(hR.out.2).step hr hy v;have hskip:=fun hy=>(hR.out.2).skip hr hy;have hput:=fun v ps=>hR.out.1.put r.path v ps;have hlen:=Gj X r.path k;rw[←hR.out.2 r.path] at hlen;obtain⟨W1,hW1⟩:∃ W1,wr.alloc (.cells (Xi r).toArray 46)=W1:=⟨_,rfl⟩;have s1:=hst.out.alloc 46 (Xi r).toArray;rw[hW1] at s1;have rb:=rlBlk wr r 46;rw[hW1] at rb;have s2:=St.takeRow (Rs:=[Qa wr.heap.size 46 (Xi r).toArray,Qa (w.heap.size+1+1) 108 #[.slice (some ⟨b,off,none⟩) N c,.map (some (w.heap.size+1))],Zw 9 (w.heap.size+1) n M]) s1 hR.out.1.1 r.path;have lk:=hR.out.1.look r.path;have hyk:r.yank=true∨r.yank=false :=(by cases r.yank<;>simp);obtain⟨pa,ma,mi,pt,rq,rv,ar,ifc,ce,ya⟩:=r;dsimp only at hrv hpl hstep hskip hput hlen lk hyk s2;subst hrv;unfold Xi at hW1 s2 s1;obtain⟨a0,a1,a2,a3,a4,a5,a6,a7,a8⟩:=ra;obtain⟨b0,b1,b2,b3,b4,b5,b6,b7,b8⟩:=rb;simp only[Nat.zero_add] at b1 b2 b3 b4 b5 b6 b7 b8;dsimp only at hW1 s1 s2 a0 a1 a2 a3 a4 a5 a6 a7 a8 b0 b1 b2 b3 b4 b5 b6 b7 b8;generalize hcv:curV R pa=v0 at s2 lk;generalize hcp:Ig R pa=ps at s2 hstep hlen;have i0:(0:Int)≤(k:Int):=Int.natCast_nonneg _;have i1:(k:Int)<(N:Int):=Int.ofNat_lt.2 hlt;have KL:=Kd hlt;have HS:=Kd3 hstep hskip hput;clear hstep hskip hput hcs hs hq hN hr hcv hcp;rcases hyk with rfl|rfl
   ·have S1:=Kd s1.tail
    clear s1 s2;go_wp2
    go_roundw
    case rel=>exact⟨k+1,n,M,R,Nat.succ_le_of_lt KL.out,by go_num,by omega,Kd ⟨hR.out.1,HS.out.2.1 rfl⟩,S1⟩
    case measure=>have:=KL.out;simp[intOf];omega
   ·have hml:pa.length≤maxLen:=by unfold maxLen;omega
    have hK:∀ W' (T:Q3),St w.heap.size w W' (T::Qa wr.heap.size 46 #[.string ⟨pa.toArray⟩,.int .i64 ma,.int .i64 mi,.int .i64 pt,.slice A' n' c',.string ⟨ar.toArray⟩,.string ⟨ifc.toArray⟩,.string ⟨ce.toArray⟩,.bool false]::Qa (w.heap.size+1+1) 108 #[.slice (some ⟨b,off,none⟩) N c,.map (some (w.heap.size+1))]::Zw 9 (w.heap.size+1) n M::(Fw R pa).map prR)→W'.cell? ⟨w.heap.size+1+1,1,none⟩=some (.map (some (w.heap.size+1)))∧W'.cell? ⟨wr.heap.size,0,none⟩=some (.string ⟨pa.toArray⟩)∧(Instr.lookup 106 (.map (some (w.heap.size+1))) (.string ⟨pa.toArray⟩) false).run prog W'=.ok v0 W':=fun W' T ht=>by refine⟨ht.tail.tail.blk.cell 1,ht.tail.blk.cell 0,?_⟩;have:=ht.tail.tail.tail.mp.look J8 underlying106 (Dg W') (Zb pa hml);rw[lk] at this;exact this
    have s3:=s2.swap.set_ 8 (.bool false);simp only[List.setIfInBounds_toArray,List.set_cons_zero,List.set_cons_succ] at s3;obtain⟨W2,hW2⟩:∃ W2,W1.setCell ⟨wr.heap.size,8,none⟩ (.bool false)=W2:=⟨_,rfl⟩;rw[hW2] at s3;have s2:=s3.swap;have bb:=s2.tail.blk;have e0:=bb.cell 0;have e8':=bb.cell 8;clear s3 bb;have F0:=Kd (hK _ _ s2);have fz:=s1.blk.frozen 8;have S2:=Kd s2;clear s2;have HK:=Kd hK;have q1:ps.length+1≤maxLen :=(by unfold maxLen;omega);have q2:(ps.length+1)*8≤140737488355328 :=(by omega);have hnm:n<maxLen :=(by unfold maxLen;omega);clear s1 hK lk;go_wp2_with fail;have l1:=(HK.out _ _ S2.out).2.2;have l2:=(HK.out _ _ S2.out.drew).2.2;have l3:=(HK.out _ _ (S2.out.alloc0 (.cells #[.int .i64 (k:Int)] 3))).2.2;have l4:=(HK.out _ _ (S2.out.alloc0 (.cells #[.int .i64 (k:Int)] 3)).drew).2.2;have l5:=(HK.out _ _ (S2.out.drew.alloc0 (.cells #[.int .i64 (k:Int)] 3)).drew).2.2;refine wp_region_noPanic ?_;refine wp_region_held_drew (S:=(fun W'=>W'.cell? ⟨w.heap.size+1+1,1,none⟩=some (.map (some (w.heap.size+1)))∧W'.cell? ⟨wr.heap.size,0,none⟩=some (.string ⟨pa.toArray⟩))) (by kernel_rfl) ?_ (fun hH0=>?_)
    ·exact⟨(HK.out _ _ S2.out).1,(HK.out _ _ S2.out).2.1⟩
    refine tk 0 22 hH0 ?_;refine tk 1 23 hH0 ?_;refine tk 2 24 hH0 ?_;refine tk 3 25 hH0 ?_;refine tk 4 26 hH0 ?_;refine tk 5 27 hH0 ?_;refine tk 6 28 hH0 ?_;refine tk 7 29 hH0 ?_;refine tk 8 30 hH0 ?_;refine tk 9 31 hH0 ?_;refine tk 10 32 hH0 ?_;refine tk 11 33 hH0 ?_;refine tk 13 35 hH0 ?_;refine Zk [12,14] ?_;refine ad 34 (fun K hK=>?_) ?_;go_simp;refine hK.out _ _ ?_ (fun hH1=>?_)
    ·exact⟨(HK.out _ _ S2.out).1,(HK.out _ _ S2.out).2.1⟩
    clear hK K hH0
    try simp only[pu]
    refine Zk [14] ?_;refine an 36 fun K hK=>?_;go_simp;refine hK.out _ _ ?_ (fun hH2=>?_)
    ·exact⟨(HK.out _ _ (S2.out.alloc0 _)).1,(HK.out _ _ (S2.out.alloc0 _)).2.1⟩
    clear hK K hH1
    try simp only[pu]
    refine Zk [15] ?_;refine an 37 fun K hK=>?_
    (
     refine stepO 54 (te:=3) (u:=.int .i64 (k:Int)) S2.out underlying54 Wg rfl _ _ (by rfl) (by rfl) (by rfl) (by rfl) rfl q1 q2 ?_;intro gg cap w5 h8 _;have e8:=HK.out _ _ h8
     have h8':St w.heap.size w w5 (Zw 9 (w.heap.size+1) n M::Qh 3 1 (.slice (some ⟨gg,0,none⟩) (ps.length+1) cap) (ps.length+1) (Q8 ps++[.int .i64 (k:Int)])::Qa wr.heap.size 46 #[.string ⟨pa.toArray⟩,.int .i64 ma,.int .i64 mi,.int .i64 pt,.slice A' n' c',.string ⟨ar.toArray⟩,.string ⟨ifc.toArray⟩,.string ⟨ce.toArray⟩,.bool false]::Qa (w.heap.size+1+1) 108 #[.slice (some ⟨b,off,none⟩) N c,.map (some (w.heap.size+1))]::(Fw R pa).map prR):=h8.front 3 (by simp))
    refine hK.out _ _ ?_ (fun hH3=>?_)
    ·exact⟨e8.1,e8.2.1⟩
    clear hK K hH2
    try simp only[pu]
    refine Zk [16] ?_;refine az fun K hK=>?_
    (
     refine X4 106 h8' J8 underlying106 rfl _ _ _ rfl (by rfl) hnm (by rfl) (by rfl) (Zb pa hml) ?_;intro w6 h9
     have e9:w6.cell? ⟨w.heap.size+1+1,1,none⟩=some (.map (some (w.heap.size+1)))∧w6.cell? ⟨wr.heap.size,0,none⟩=some (.string ⟨pa.toArray⟩):=⟨h9.tail.tail.tail.blk.cell 1,h9.tail.tail.blk.cell 0⟩)
    refine hK.out _ _ ?_ (fun hH4=>?_)
    ·exact e9
    clear hK K hH3
    try simp only[pu]
    refine dn ?_ _;rotate_left 1;refine an 36 fun K hK=>?_;go_simp;refine hK.out _ _ ?_ (fun hH5=>?_)
    ·exact⟨(HK.out _ _ (S2.out.alloc0 _)).1,(HK.out _ _ (S2.out.alloc0 _)).2.1⟩
    clear hK K hH0
    try simp only[pu]
    refine Zk [12] ?_;refine an 34 fun K hK=>?_;go_simp;refine hK.out _ _ ?_ (fun hH6=>?_)
    ·exact⟨(HK.out _ _ (S2.out.alloc0 _)).1,(HK.out _ _ (S2.out.alloc0 _)).2.1⟩
    clear hK K hH5
    try simp only[pu]
    refine Zk [15] ?_;refine an 37 fun K hK=>?_
    (
     refine stepO 54 (te:=3) (u:=.int .i64 (k:Int)) S2.out underlying54 Wg rfl _ _ (by rfl) (by rfl) (by rfl) (by rfl) rfl q1 q2 ?_;intro gg cap w5 h8 _;have e8:=HK.out _ _ h8
     have h8':St w.heap.size w w5 (Zw 9 (w.heap.size+1) n M::Qh 3 1 (.slice (some ⟨gg,0,none⟩) (ps.length+1) cap) (ps.length+1) (Q8 ps++[.int .i64 (k:Int)])::Qa wr.heap.size 46 #[.string ⟨pa.toArray⟩,.int .i64 ma,.int .i64 mi,.int .i64 pt,.slice A' n' c',.string ⟨ar.toArray⟩,.string ⟨ifc.toArray⟩,.string ⟨ce.toArray⟩,.bool false]::Qa (w.heap.size+1+1) 108 #[.slice (some ⟨b,off,none⟩) N c,.map (some (w.heap.size+1))]::(Fw R pa).map prR):=h8.front 3 (by simp))
    refine hK.out _ _ ?_ (fun hH7=>?_)
    ·exact⟨e8.1,e8.2.1⟩
    clear hK K hH6
    try simp only[pu]
    refine Zk [16] ?_;refine az fun K hK=>?_
    (
     refine X4 106 h8' J8 underlying106 rfl _ _ _ rfl (by rfl) hnm (by rfl) (by rfl) (Zb pa hml) ?_;intro w6 h9
     have e9:w6.cell? ⟨w.heap.size+1+1,1,none⟩=some (.map (some (w.heap.size+1)))∧w6.cell? ⟨wr.heap.size,0,none⟩=some (.string ⟨pa.toArray⟩):=⟨h9.tail.tail.tail.blk.cell 1,h9.tail.tail.blk.cell 0⟩)
    refine hK.out _ _ ?_ (fun hH8=>?_)
    ·exact e9
    clear hK K hH7
    try simp only[pu]
    refine dn ?_ _
    all_goals(refine NoPanic.normal ?_)
    all_goals(
     have hz:(ps++[k]).length=ps.length+1 :=(by rw[List.length_append];rfl);have hz2:Q8 (ps++[k])=Q8 ps++[.int .i64 (k:Int)] :=(by unfold Q8;rw[List.map_append];rfl);have ha:=h9.front 3 (by simp);have hb:=ha.front 3 (by simp);have hc:St w.heap.size w w6 (Qa (w.heap.size+1+1) 108 #[.slice (some ⟨b,off,none⟩) N c,.map (some (w.heap.size+1))]::Zw 9 (w.heap.size+1) (n+1) (Jq M (.string pa) (.slice (some ⟨gg,0,none⟩) (ps.length+1) cap))::Qh 3 1 (.slice (some ⟨gg,0,none⟩) (ps.length+1) cap) (ps.length+1) (Q8 ps++[.int .i64 (k:Int)])::(Fw R pa).map prR):=hb.tail;rw[←hz2,←hz] at hc;have HC:=Kd hc;clear h9 ha hb hc e9 l1 l2 l3 l4 l5;go_wp2
     go_roundw
     case rel=>exact⟨k+1,n+1,_,⟨pa,_,ps++[k]⟩::Fw R pa,Nat.succ_le_of_lt KL.out,by go_num,by omega,Kd ⟨HS.out.2.2 _ _,HS.out.1 _ (by trivial)⟩,HC⟩
     case measure=>have:=KL.out;simp[intOf];omega)
  ·obtain rfl:k=N:=Nat.le_antisymm hk (Nat.le_of_not_lt hlt)
   have hge:decide ((k:Int)<(k:Int))=false :=(by simp);go_wp2;go_ret;exact⟨_,_,n,M,R,rfl,hR.out.1,hR.out.2,hst.out⟩
structure G5 (w:World) (F:Nat→Prop) (g:Nat) (v:Value) (X:List Qi) (mb n:Nat) (M:Lit→Option Value):Prop where
 fg:F g
 lt:g<w.heap.size
 c0:w.cell? ⟨g,0,none⟩=some v
 c1:w.cell? ⟨g,1,none⟩=some (.map (some mb))
 fm:F mb
 map:Jd w 9 mb n M
 row:∀ p:Tm.Qk,∃ A c,(M (.string p)).getD (.slice none 0 0)=.slice A (J3 X p X.length).length c∧Z9 w F A (Q8 (J3 X p X.length))
theorem G5.keep {w w':World} {F:Nat→Prop} {g:Nat} {v:Value} {X:List Qi} {mb n:Nat} {M:Lit→Option Value} (h:G5 w F g v X mb n M) (hk:Qm F w w'):G5 w' F g v X mb n M where
 fg:=h.fg
 lt:=(hk g h.fg h.lt).1
 c0:=(World.cell?_of_block (a:=⟨g,0,none⟩) (hk g h.fg h.lt).2).trans h.c0
 c1:=(World.cell?_of_block (a:=⟨g,1,none⟩) (hk g h.fg h.lt).2).trans h.c1
 fm:=h.fm
 map:=h.map.keep hk h.fm
 row p:=by obtain⟨A,c,e,hr⟩:=h.row p;exact⟨A,c,e,hr.keep hk⟩
theorem G5.below {w w':World} {F:Nat→Prop} {g:Nat} {v:Value} {X:List Qi} {mb n:Nat} {M:Lit→Option Value} (h:G5 w F g v X mb n M) (hb:Below w.heap.size w w'):G5 w' F g v X mb n M:=h.keep (Qm.of_below hb)
theorem Jn (L:List Nat):(Q8 L).length=L.length:=by unfold Q8;rw[List.length_map]
theorem wd_of {lo:Nat} {w0 w:World} {g mb n:Nat} {v:Value} {M:Lit→Option Value} {X:List Qi} {R:List Hg} (h:St lo w0 w ([Qa g 108 #[v,.map (some mb)],Zw 9 mb n M]++R.map prR)) (hR:Rd M R) (hX:D6 X X.length R):G5 w (fun k=>lo≤k) g v X mb n M where
 fg:=by obtain⟨F,h1,h2,_⟩:=St.open (R:=Qa g 108 #[v,.map (some mb)]) h;obtain⟨hb,rfl⟩:=h1;exact h2 g rfl
 lt:=(St.blk (g:=g) (t:=108) (cs:=#[v,.map (some mb)]) h).lt
 c0:=(St.blk (g:=g) (t:=108) (cs:=#[v,.map (some mb)]) h).cell 0
 c1:=(St.blk (g:=g) (t:=108) (cs:=#[v,.map (some mb)]) h).cell 1
 fm:=by obtain⟨F,h1,h2,_⟩:=St.open (R:=Zw 9 mb n M) (St.tail (R:=Qa g 108 #[v,.map (some mb)]) h);obtain⟨hb,rfl⟩:=h1;exact h2 mb rfl
 map:=St.mp (St.tail (R:=Qa g 108 #[v,.map (some mb)]) h)
 row p:=by
  have h1:=St.takeRow (Rs:=[Qa g 108 #[v,.map (some mb)],Zw 9 mb n M]) h hR.1 p;rw[hX p] at h1;rw[hR.look p];generalize curV R p=u at h1 ⊢;obtain⟨A,c,rfl,g1,g2⟩:=Q4 h1.own;refine⟨A,c,rfl,?_⟩;rcases Nat.eq_zero_or_pos (J3 X p X.length).length with h0|h0
  ·refine .inl (List.eq_nil_of_length_eq_zero ?_)
   rw[Jn,h0]
  ·obtain⟨b,c',eA,hg,-,-⟩:=Zx h1.own h0
   obtain⟨rfl,-,rfl⟩:=Value.slice.inj eA;refine .inr ⟨b,0,rfl,h1.ownLo.1,h1.ownLo.2,fun i hi=>?_⟩;rw[Nat.zero_add];exact(h1.cellAt (List.getElem?_eq_getElem hi)).1
theorem Z9.ltR {w:World} {F:Nat→Prop} {A:Option Addr} {xs:List Value} (h:Z9 w F A xs):Z9 w (fun k=>F k∧k<w.heap.size) A xs:=by
 rcases h with h|⟨b,off,e,h4,h5,h6⟩
 ·exact .inl h
 ·exact .inr ⟨b,off,e,⟨h4,h5⟩,h5,h6⟩
theorem Qt.ltR {w:World} {F:Nat→Prop} {v:Value} {L:List Tm.Qw} (h:Qt w F v L):Qt w (fun k=>F k∧k<w.heap.size) v L:=by obtain⟨A,c,M,e0,e1,h1,h2,h3,h4⟩:=h;exact⟨A,c,M,e0,e1,h1,h2,h3.ltR,fun m hm=>(h4 m hm).lt⟩
theorem Qx.ltR {w:World} {F:Nat→Prop} {v:Value} {X:List Qi} (h:Qx w F v X):Qx w (fun k=>F k∧k<w.heap.size) v X:=by obtain⟨A,c,e1,h1,h2,h3,h4⟩:=h;exact⟨A,c,e1,h1,h2,h3.ltR,fun r hr=>(h4 r hr).ltR⟩
theorem G5.ltR {w:World} {F:Nat→Prop} {g:Nat} {v:Value} {X:List Qi} {mb n:Nat} {M:Lit→Option Value} (h:G5 w F g v X mb n M):G5 w (fun k=>F k∧k<w.heap.size) g v X mb n M where
 fg:=⟨h.fg,h.lt⟩
 lt:=h.lt
 c0:=h.c0
 c1:=h.c1
 fm:=⟨h.fm,h.map.lt⟩
 map:=h.map
 row p:=by obtain⟨A,c,e,hr⟩:=h.row p;exact⟨A,c,e,hr.ltR⟩
theorem St.natsOf {lo:Nat} {w0 w:World} {Rs:List Q3} {v:Value} {n:Nat} {L:List Nat} (h:St lo w0 w (Qh 3 1 v n (Q8 L)::Rs)) (hn:L.length=n):∃ A c,v=.slice A n c∧n≤c∧c≤maxLen∧Z9 w (fun k=>lo≤k) A (Q8 L):=by
 obtain⟨A,c,rfl,g1,g2⟩:=Q4 h.own;refine⟨A,c,rfl,g1,g2,?_⟩;rcases Nat.eq_zero_or_pos n with h0|h0
 ·refine .inl (List.eq_nil_of_length_eq_zero ?_)
  rw[Jn,hn,h0]
 ·obtain⟨b,c',eA,hg,-,-⟩:=Zx h.own h0
  obtain⟨rfl,-,rfl⟩:=Value.slice.inj eA;refine .inr ⟨b,0,rfl,h.ownLo.1,h.ownLo.2,fun i hi=>?_⟩;rw[Nat.zero_add];exact(h.cellAt (List.getElem?_eq_getElem hi)).1
def nmI (X:List Qi) (q:Tm.Qw):Int:=Re X ((Cu q.set).getD 0) (J3 X q.path X.length)
theorem Sv (X:List Qi) (m:Int):∀ L:List Nat,Re X m L = -1∨∃ i∈L,Re X m L=(i:Int)
 |[]=>.inl rfl
 | i::L=>by
   rw[Re]
   split
   ·exact .inr ⟨i,List.mem_cons_self ..,rfl⟩
   ·rcases Sv X m L with h|⟨j,hj,h⟩
    ·exact .inl h
    ·exact .inr ⟨j,List.mem_cons_of_mem _ hj,h⟩
def Iw (X:List Qi):List Tm.Qw→Option (List Nat)
 |[]=>some []
 |q::l=>if nmI X q<0 then none else (Iw X l).map ((nmI X q).toNat::·)
theorem nmL_snoc (X:List Qi) (P:List Nat) (q:Tm.Qw) (l:List Tm.Qw) {i:Nat} (h:nmI X q=(i:Int)):(Iw X (q::l)).map (P++·)=(Iw X l).map ((P++[i])++·):=by
 rw[Iw,if_neg (by rw[h];omega),h,Int.toNat_natCast,Option.map_map]
 congr 1
 funext x
 simp
theorem names_spec (X:List Qi) (Q:List Tm.Qw) (g mb n:Nat) (xv v:Value) (mp:Lit→Option Value) (F G:Nat→Prop) (w:World) (hw:G5 w F g xv X mb n mp) (hx:Qx w F xv X) (hq:Qt w G v Q) (hs:∀ q∈Q,Zu q) (hX:∀ r∈X,O1 r) (hX2:X.length≤1048576) (hQ:Q.length≤1048576):
 Calls prog 142 #[.pointer (some ⟨g,0,none⟩),.func (.func 30) #[] #[],v] w fun e w'=>Below w.heap.size w w'∧(match Iw X Q with
  |none=>e=.returned (.tuple #[.slice none 0 0,.bool false])
  |some L=>∃ A c,e=.returned (.tuple #[.slice A L.length c,.bool true])∧St w.heap.size w w' [Qh 3 1 (.slice A L.length c) L.length (Q8 L)]):=by
 obtain⟨A,c,M,rfl,rfl,hc1,hc2,hr,hm⟩:=hq;rw[List.length_map] at hQ;obtain⟨N,hN⟩:∃ N,M.length=N:=⟨_,rfl⟩;rw[hN] at hQ ⊢;obtain⟨res,hres⟩:∃ res,Iw X (M.map Prod.fst)=res:=⟨_,rfl⟩;rw[hres];have HM:=Kd7 hN (fun j hj=>Jk hr (j:=j) hj) (fun m hmm=>(hm m hmm).lt) hs hw.ltR hx.ltR hX;have HR:=Kd hres;clear hr hm hs hw hx hX hN hres hc1 hc2;go_enter func142,ntmps142;go_wp2
 go_loopw [16,8] (fun i o wr=>∃(k:Nat) (P:List Nat),k≤N∧i=.int .i64 k∧P.length=k∧Hid (res=(Iw X ((M.map Prod.fst).drop k)).map (P++·))∧Hid (St w.heap.size w wr [Qh 3 1 o k (Q8 P)])) (fun i _ _=>N-(intOf i).toNat)
 case atStart=>exact⟨0,[],Nat.zero_le _,rfl,rfl,Kd (by rw[←HR.out,List.drop_zero];simp),Kd ((St.nil w).new_own (Below.refl _ w) ⟨rfl,.inl ⟨rfl,rfl⟩⟩)⟩
 case round=>
  obtain⟨k,P,hk,rfl,hP,hp,hst⟩:=hrel
  by_cases hlt:k<N
  ·obtain⟨hN,hcs,hm,hs,hw,hx,hX⟩:=HM.out
   have hkM:k<M.length :=(by omega);obtain⟨b,off,rfl,hbl,c0,c1⟩:=hcs k hkM;rw[←hst.out.below.cell (p:=⟨b,off+k*2,none⟩) hbl] at c0;rw[←hst.out.below.cell (p:=⟨b,off+k*2+1,none⟩) hbl] at c1;have hset:=hm M[k] (List.getElem_mem hkM);have hsm:=hs M[k].1 (List.mem_map.2 ⟨M[k],List.getElem_mem hkM,rfl⟩);have hp:=hp.out;rw[List.drop_eq_getElem_cons (by rw[List.length_map];exact hkM),List.getElem_map] at hp;generalize M[k]=x at c0 c1 hset hsm hp;obtain⟨q,v⟩:=x;dsimp only at c0 c1 hset hsm hp;obtain⟨W1,hW1⟩:∃ W1,wr.alloc (.cells #[.string ⟨q.path.toArray⟩,v] 43)=W1:=⟨_,rfl⟩;have s1:=hst.out.alloc 43 #[.string ⟨q.path.toArray⟩,v];rw[hW1] at s1;have x0:=s1.blk.cell 0;have x1:=s1.blk.cell 1;have kl:=least_spec q.set v _ W1 (hset.keep (Qm.under s1.below (fun _ hk=>hk.2))) hsm.1;obtain⟨A1,n1,c1',rfl⟩:=hset.shape;have hq64:q.path.length≤maxLen :=(by have:=hsm.2;unfold maxLen;omega);have i0:(0:Int)≤(k:Int):=Int.natCast_nonneg _;have i1:(k:Int)<(N:Int):=Int.ofNat_lt.2 hlt;have KL:=Kd hlt;have S1:=Kd s1;have HP:=Kd2 hp hP;have HW:=Kd3 hw hx hX;have hmi:∀ m,m=(Cu q.set).getD 0→nmI X q=Re X m (J3 X q.path X.length):=fun m hm=>by rw[hm];rfl
   clear hN hcs hm hs hw hx hX hset hsm hp s1 hkM hP;generalize (Cu q.set).getD 0=mi at kl hmi;have hmi:=hmi mi rfl;go_wp2_with fail;refine kl.mono ?_;rintro e w2 ⟨rfl,z2⟩;have s2:=S1.out.under z2;have y0:=s2.blk.cell 0;have hw2:=HW.out.1.keep (Qm.under s2.below (fun _ hk=>hk.2));have hx2:=HW.out.2.1.keep (Qm.under s2.below (fun _ hk=>hk.2));obtain⟨Ar,cr,er,hrr⟩:=hw2.row q.path;obtain⟨ln1,ln2⟩:=Gj X q.path X.length;have lk:∀ W,Jd W 9 mb n mp→(Instr.lookup 106 (.map (some mb)) (.string ⟨q.path.toArray⟩) false).run prog W=.ok (.slice Ar (J3 X q.path X.length).length cr) W:=fun W hW=>by have:=hW.look J8 underlying106 (Dg W) (Zb q.path hq64);rw[er] at this;exact this
   have l1:=lk w2 hw2.map;have l2:=lk w2.drew (hw2.below (Below.refl _ _).drew).map;have ko:=fun W (hb:Below w2.heap.size w2 W)=>Ck X (J3 X q.path X.length) mi g xv Ar cr _ _ W (hx2.below hb) (hw2.below hb).c0 (hrr.below hb) (by omega) ln2 HW.out.2.2 hX2;have u1:=hw2.c1;have hK:∀ W,Below w2.heap.size w2 W→W.cell? ⟨g,1,none⟩=some (.map (some mb))∧W.cell? ⟨wr.heap.size,0,none⟩=some (.string ⟨q.path.toArray⟩):=fun W hb=>⟨(hw2.below hb).c1,(s2.under hb).blk.cell 0⟩;have HK:=Kd hK;rw[←hmi] at ko;have hrg:=Sv X mi (J3 X q.path X.length);rw[←hmi] at hrg;generalize (J3 X q.path X.length).length=ln at l1 l2 ko;have HNI:=Kd (fun (i:Nat) (h:nmI X q=(i:Int))=>nmL_snoc X P q ((M.map Prod.fst).drop (k+1)) h);have HNN:nmI X q = -1→Iw X (q::(M.map Prod.fst).drop (k+1))=none:=fun h=>by rw[Iw,if_pos (by rw[h];decide)]
   have HNO:=Kd HNN;have S2:=Kd s2;have r0:=Below.refl w2.heap.size w2;clear kl z2 s2 hw2 hx2 er hrr lk hK HNN hmi ln1 ln2;generalize nmI X q=ni at ko hrg HNI HNO;go_wp2_with fail;clear hW1;refine wp_region_noPanic ?_;refine wp_region_held_drew (S:=(fun W'=>W'.cell? ⟨g,1,none⟩=some (.map (some mb))∧W'.cell? ⟨wr.heap.size,0,none⟩=some (.string ⟨q.path.toArray⟩))) (by kernel_rfl) ?_ (fun hH0=>?_)
   ·exact HK.out _ r0.drew
   refine tk 0 26 hH0 ?_;refine tk 1 27 hH0 ?_;refine tk 2 28 hH0 ?_;refine tk 3 29 hH0 ?_;refine tk 4 30 hH0 ?_;refine tk 5 31 hH0 ?_;refine tk 6 32 hH0 ?_;refine tk 7 33 hH0 ?_;refine tk 9 35 hH0 ?_;refine Zk [8] ?_;refine an 34 fun K hK=>?_;go_simp;refine hK.out _ _ ?_ (fun hH1=>?_)
   ·exact HK.out _ r0.drew
   clear hK K hH0
   try simp only[pu]
   refine Zk [10] ?_;refine an 36 fun K hK=>?_
   go_simp;(
    with_reducible refine(ko _ r0.drew).mono ?_
    rintro e w3 ⟨rfl,z3⟩
    have r1:Below w2.heap.size w2 w3:=r0.drew.trans (z3.mono r0.drew.size));go_wp2_with fail
   refine hK.out _ _ ?_ (fun hH2=>?_)
   ·exact HK.out _ r1
   clear hK K hH1
   try simp only[pu]
   refine tk 11 13 hH2 ?_;refine dn ?_ _
   all_goals(refine NoPanic.normal ?_)
   have s3:=(S2.out.under r1).tail;have S3:=Kd s3;clear r1 z3 r0 ko s3 l1 l2;rcases hrg with rfl|⟨i,-,rfl⟩
   ·obtain rfl:res=none:=by rw[HP.out.1,HNO.out rfl];rfl
    go_wp2;go_ret2;exact⟨S3.out.below,rfl⟩
   ·have hz2:Q8 (P++[i])=Q8 P++[.int .i64 (i:Int)]:=by unfold Q8;rw[List.map_append];rfl
    have HZ:=Kd hz2;have q1:k+1≤maxLen :=(by unfold maxLen;omega);have q2:(k+1)*8≤140737488355328 :=(by omega);clear hz2;go_wp2_with (at_builtin;go_must (refine Vr 54 S3.out underlying54 Wg rfl rfl _ _ rfl rfl rfl rfl q1 q2 ?_);intro v2 w8 h9);have H9:=Kd h9;clear h9;go_wp2
    go_roundw
    case rel=>exact⟨k+1,P++[i],Nat.succ_le_of_lt KL.out,by go_num,by rw[List.length_append,HP.out.2];rfl,Kd (by rw[HP.out.1];exact HNI.out i rfl),Kd (by rw[HZ.out];exact H9.out)⟩
    case measure=>have:=KL.out;simp[intOf];omega
  ·obtain rfl:k=N:=Nat.le_antisymm hk (Nat.le_of_not_lt hlt)
   have hge:decide ((k:Int)<(k:Int))=false :=(by simp);obtain rfl:res=some P :=(by rw[hp.out,List.drop_eq_nil_of_le (by rw[List.length_map,HM.out.1];exact Nat.le_refl _)];simp[Iw]);obtain⟨Ao,co,rfl,-,-,-⟩:=hst.out.natsOf hP;have HRD:=Kd hst.out;go_wp2;go_ret2;refine⟨hst.out.below,?_⟩;rw[←hP] at HRD ⊢;exact⟨Ao,co,rfl,HRD.out⟩
theorem grows1_spec (p q:Tm.Qw) (v u:Value) (F G:Nat→Prop) (g:Nat) (w:World) (h:Qr w F v p.set) (h2:Qr w G u q.set) (hg0:w.cell? ⟨g,0,none⟩=some (.string ⟨q.path.toArray⟩)) (hg1:w.cell? ⟨g,1,none⟩=some u) (hp:Zu p) (hq:Zu q):
 Calls prog 27 #[.agg #[.string ⟨p.path.toArray⟩,v],.pointer (some ⟨g,0,none⟩)] w fun e w'=>e=.returned (.bool (p.path==q.path&&Tm.Fn p.set q.set))∧Below w.heap.size w w':=by
 have hgl:=World.block_lt_of_cell? w _ hg0;obtain⟨W0,hW0⟩:∃ W0,w.alloc (.cells #[.string ⟨p.path.toArray⟩,v] 43)=W0:=⟨_,rfl⟩;have y0:=(St.nil w).alloc 43 #[.string ⟨p.path.toArray⟩,v];rw[hW0] at y0;have x0:=y0.blk.cell 0;have x1:=y0.blk.cell 1;have z0:Below w.heap.size w W0:=y0.below;have e0:=(z0.cell (p:=⟨g,0,none⟩) hgl).trans hg0;have e1:=(z0.cell (p:=⟨g,1,none⟩) hgl).trans hg1;have k:=I8 p.set q.set v u _ _ W0 (h.below z0) (h2.below z0) hp.1 hq.1;obtain⟨A,n,c,rfl⟩:=h.shape;obtain⟨A2,n2,c2,rfl⟩:=h2.shape;have hb:((⟨p.path.toArray⟩:ByteArray).toList==(⟨q.path.toArray⟩:ByteArray).toList)=(p.path==q.path):=by rw[Q7,Q7]
 have Z0:=Kd z0;clear y0 z0 h h2 hg0 hg1;generalize Tm.Fn p.set q.set=r at k ⊢
 cases hpq:p.path==q.path with
 |false =>rw[hpq] at hb;go_enter func27,ntmps27;go_wp2;go_ret;exact⟨rfl,Z0.out⟩
 |true =>rw[hpq] at hb;go_enter func27,ntmps27;go_wp2_with fail;refine k.mono ?_;rintro e w1 ⟨rfl,z1⟩;have Z1:=Kd (Z0.out.trans (z1.mono Z0.out.size));clear k z1;go_wp2;go_ret;exact⟨rfl,Z1.out⟩
theorem Mz (r:Qi) (w:World):Calls prog 53 #[Fa r] w fun e w'=>e=.returned (.agg #[.string ⟨r.path.toArray⟩,.int .i64 r.major,.int .i64 r.minor,.int .i64 r.patch])∧Below w.heap.size w w':=by obtain⟨pa,ma,mi,pt,rq,rv,ar,ifc,ce,ya⟩:=r;unfold Fa Xi;dsimp only;go_enter func53,ntmps53;go_wp2;refine bodyPost_ret (v:=.agg #[.string ⟨pa.toArray⟩,.int .i64 ma,.int .i64 mi,.int .i64 pt]) (by simp[results,Tryz.results53,go_sem]) rfl ?_;exact⟨rfl,(b1 w _).alloc (by simp) _⟩
def Qf (r:Qi):Tm.Qp:=⟨r.path,Jt r,r.reqs,r.yank⟩
theorem Pa (p:Tm.Qk):∀(x:List Tm.Qp) (i:Nat) (r:Tm.Qp),Tm.Kq p i (x++[r])=Tm.Kq p i x++if r.path==p&&!r.yank then [i+x.length] else []
 | [],i,r=>by
   show (if r.path==p&&!r.yank then i::Tm.Kq p (i+1) [] else Tm.Kq p (i+1) [])=_
   split<;>rfl
 | y::x,i,r=>by
   show (if y.path==p&&!y.yank then i::Tm.Kq p (i+1) (x++[r]) else Tm.Kq p (i+1) (x++[r]))=(if y.path==p&&!y.yank then i::Tm.Kq p (i+1) x else Tm.Kq p (i+1) x)++_;rw[Pa p x (i+1) r,List.length_cons,show i+1+x.length=i+(x.length+1) by omega]
   split<;>rfl
theorem Nv (X:List Qi) (p:Tm.Qk):∀ k,k≤X.length→J3 X p k=Tm.Kq p 0 ((X.take k).map Qf)
 |0,_=>rfl
 | k+1,h=>by
   have hk:k<X.length :=(by omega);rw[J3,List.getElem?_eq_getElem hk,List.take_succ_eq_append_getElem hk,List.map_append,List.map_singleton,Pa,Nv X p k (by omega)];dsimp only;rw[List.length_map,List.length_take,Nat.min_eq_left (by omega),Nat.zero_add];have hc:(((Qf X[k]).path==p&&!(Qf X[k]).yank)=true)↔(X[k].path=p∧X[k].yank=false):=by simp[Qf]
   by_cases hh:X[k].path=p∧X[k].yank=false
   ·rw[if_pos hh,if_pos (hc.2 hh)]
   ·rw[if_neg hh,if_neg (fun e=>hh (hc.1 e)),List.append_nil]
theorem psUpTo_all (X:List Qi) (p:Tm.Qk):J3 X p X.length=Tm.Kq p 0 (X.map Qf):=by rw[Nv X p X.length (Nat.le_refl _),List.take_length]
theorem lstS_eq (s:List Tm.Sp):(Cu s).getD 0=Tm.Fz s:=by
 unfold Cu Tm.Fz
 cases Tm.Q9 s<;>rfl
theorem plc_eq {X:List Qi} {i:Nat} (h:i<X.length):Tm.plc (X.map Qf) i=Jt (xD X i):=by unfold Tm.plc;rw[List.getElem?_map,List.getElem?_eq_getElem h,Uq h];rfl
theorem Pd (X:List Qi) (m:Int):∀ L:List Nat,(∀ i∈L,i<X.length)→Re X m L=(match L.find? (fun i=>decide (m≤Tm.plc (X.map Qf) i)) with|some i=>(i:Int)|none => -1)
 |[],_=>rfl
 | i::L,h=>by
   rw[Re,List.find?_cons,plc_eq (h i (List.mem_cons_self ..))]
   by_cases hm:m≤Jt (xD X i)
   ·rw[if_pos hm,decide_eq_true hm]
   ·rw[if_neg hm,decide_eq_false hm]
    exact Pd X m L (fun j hj=>h j (List.mem_cons_of_mem _ hj))
theorem nmI_old (X:List Qi) (q:Tm.Qw):nmI X q=match Tm.X6 (X.map Qf) q with
 |some i=>(i:Int)
 |none => -1:=by
 unfold nmI Tm.X6;rw[Pd X _ _ (Gj X q.path X.length).2,psUpTo_all,lstS_eq]
theorem Cm (X:List Qi):∀(l:List Tm.Qw) (L:List Nat),Iw X l=some L→∀ i,i∈L↔∃ q∈l,Tm.X6 (X.map Qf) q=some i
 |[],L,h,i=>by obtain rfl:=Option.some.inj h;simp
 | q::l,L,h,i=>by
   rw[Iw] at h
   split at h
   ·cases h
   ·rename_i hn
    obtain⟨L',h1,rfl⟩:=Option.map_eq_some_iff.1 h;rw[nmI_old] at hn ⊢
    cases ho:Tm.X6 (X.map Qf) q with
    |none=>rw[ho] at hn;exact absurd (by decide) hn
    |some j =>rw[List.mem_cons,Cm X l L' h1 i];simp[ho,eq_comm]
theorem Sw (X:List Qi):∀(l:List Tm.Qw),Iw X l=none↔∃ q∈l,Tm.X6 (X.map Qf) q=none
 |[]=>by simp[Iw]
 | q::l=>by
   rw[Iw];rw[nmI_old]
   cases ho:Tm.X6 (X.map Qf) q with
   |none=>simp[ho]
   |some j =>dsimp only;have hj:¬((j:Int)<0) :=(by omega);rw[if_neg hj,Option.map_eq_none_iff,Sw X l];simp[ho]
theorem majN_ne {s:Tm.Qk} {n:Nat} (h:Uz s=some n):s≠[]:=fun e=>by have h1:=Tb h;obtain⟨-,-,h2⟩:=Bv s;rw[e] at h1 h2;simp at h2;omega
theorem Wl {r:Qi} (h:V7 r=0):∃ m:Nat,Uz r.path=some m∧O1 r∧r.major=(m:Int)∧U5 r.reqs=0:=by
 unfold V7 at h
 split at h
 ·cases h
 ·rename_i m hm
  split at h
  ·rename_i hok
   split at h
   ·rename_i hr
    exact⟨m,hm,hok.1,hok.2,hr⟩
   ·rename_i hr
    exact absurd h hr
  ·cases h
theorem Wk {r:Qi} (h:O1 r):0≤Jt r∧Jt r<1000000∧0≤r.minor∧r.minor≤999∧0≤r.patch∧r.patch≤999:=by unfold O1 Mq at h;simp only[Bool.and_eq_true] at h;obtain⟨h1,h2,h3⟩:=h;have a:=X7 h2;have b:=X7 h3;unfold Jt;omega
theorem E7:∀(X:List Qi) (b:Option Qi),Yg b X=0→∀ r∈X,V7 r=0
 |[],_,_=>fun r hr=>by cases hr
 | x :: X,b,h=>by
   rw[U4] at h
   split at h
   ·rename_i hx
    have h2:Yg (some x) X=0:=by
     unfold Sb at h
     split at h
     ·exact h
     ·split at h
      ·cases h
      ·split at h
       ·cases h
       ·exact h
    intro r hr;rcases List.mem_cons.1 hr with rfl|hr
    ·exact hx
    ·exact E7 X _ h2 r hr
   ·rename_i hx
    exact absurd h hx
theorem chkXs_next {x y:Qi} {X:List Qi} {b:Option Qi} (h:Yg b (x::y::X)=0):Tf x≠Tf y∧¬ 0<cmpR x y∧Yg (some x) (y::X)=0:=by
 have h2:Yg (some x) (y::X)=0:=by
  rw[U4] at h
  split at h
  ·unfold Sb at h
   split at h
   ·exact h
   ·split at h
    ·cases h
    ·split at h
     ·cases h
     ·exact h
  ·rename_i hx
   exact absurd h hx
 refine⟨?_,?_,h2⟩
 ·rw[U4] at h2
  split at h2
  ·unfold Sb at h2
   dsimp only at h2
   split at h2
   ·cases h2
   ·rename_i hk
    exact hk
  ·rename_i hx
   exact absurd h2 hx
 ·rw [U4] at h2
  split at h2
  ·unfold Sb at h2
   dsimp only at h2
   split at h2
   ·cases h2
   ·split at h2
    ·cases h2
    ·rename_i hk
     exact hk
  ·rename_i hx
   exact absurd h2 hx
def LtR (a b:Qi):Prop:=Tm.Jr a.path b.path=true∨(a.path=b.path∧Jt a<Jt b)
theorem LtR.trans {a b c:Qi} (h:LtR a b) (k:LtR b c):LtR a c:=by
 rcases h with h|⟨h1,h2⟩
 ·rcases k with k|⟨k1,k2⟩
  ·exact .inl (Tm.Je _ _ _ h k)
  ·exact .inl (by rw[←k1];exact h)
 ·rcases k with k|⟨k1,k2⟩
  ·exact .inl (by rw[h1];exact k)
  ·exact .inr ⟨h1.trans k1,Int.lt_trans h2 k2⟩
theorem step_lt {a b:Qi} (ha:V7 a=0) (hb:V7 b=0) (hk:Tf a≠Tf b) (hc:¬ 0<cmpR a b):LtR a b:=by
 obtain⟨m,h1,h2,h3,-⟩:=Wl ha;obtain⟨m',k1,k2,k3,-⟩:=Wl hb;have pa:=Wk h2;have pb:=Wk k2;unfold cmpR orI E5 at hc
 cases e1:Tm.Jr a.path b.path with
 |true=>exact .inl e1
 | false =>
   rw[e1] at hc
   cases e2:Tm.Jr b.path a.path with
   |true =>rw[e2] at hc;simp at hc
   | false=>
     have ep:=Tm.Vp _ _ e1 e2;have em:a.major=b.major :=(by rw[ep,k1] at h1;rw[h3,k3,Option.some.inj h1]);rw[e2] at hc;refine .inr ⟨ep,?_⟩;have hc':¬ 0<cmpV a.major a.minor a.patch b.major b.minor b.patch :=(by simpa using hc);unfold cmpV Rh at hc';rw[em] at hc';have hkk:¬(a.minor=b.minor∧a.patch=b.patch):=fun e=>hk (by unfold Tf;rw[ep,em,e.1,e.2]);unfold Jt
     by_cases l1:a.minor<b.minor
     ·omega
     ·by_cases l2:b.minor<a.minor
      ·exfalso
       simp[l1,l2] at hc'
      ·have e3:a.minor=b.minor:=by omega
       by_cases l3:a.patch<b.patch
       ·omega
       ·have l4:b.patch<a.patch:=by
         rcases Int.lt_trichotomy a.patch b.patch with h|h|h
         ·exact absurd h l3
         ·exact absurd ⟨e3,h⟩ hkk
         ·exact h
        exfalso;simp[l1,l2,l3,l4] at hc'
theorem chain_lt:∀(X:List Qi) (b:Option Qi),Yg b X=0→X.Pairwise LtR
 |[],_,_=>List.Pairwise.nil
 |[x],_,_=>List.pairwise_singleton _ _
 | x::y::X,b,h=>by
   have hall:=E7 _ _ h;obtain⟨h1,h2,h3⟩:=chkXs_next h;have ih:=chain_lt (y::X) _ h3;have hxy:=step_lt (hall x (List.mem_cons_self ..)) (hall y (List.mem_cons_of_mem _ (List.mem_cons_self ..))) h1 h2;refine List.pairwise_cons.2 ⟨fun z hz=>?_,ih⟩;rcases List.mem_cons.1 hz with rfl|hz
   ·exact hxy
   ·exact hxy.trans ((List.pairwise_cons.1 ih).1 z hz)
theorem Vj {X:List Qi} (h:Gc X=0):Tm.Ri (X.map Qf)∧X.length≤256∧∀ r∈X,V7 r=0:=by
 unfold Gc at h
 split at h
 ·cases h
 ·rename_i hl
  refine⟨?_,by omega,E7 X none h⟩;unfold Tm.Ri;rw[List.pairwise_map];exact chain_lt X none h
theorem Bo {x:List Tm.Qp} (h:Tm.Ri x):Tm.Uniq x:=fun r hr r' hr' ep el=>by
 obtain⟨i,hi,rfl⟩:=List.getElem_of_mem hr;obtain⟨j,hj,rfl⟩:=List.getElem_of_mem hr'
 have no:∀(a b:Nat) (ha:a<x.length) (hb:b<x.length),x[a].path=x[b].path→x[a].place=x[b].place→¬ a<b:=fun a b ha hb e1 e2 hab=>by
  rcases List.pairwise_iff_getElem.1 h a b ha hb hab with k|⟨-,k⟩
  ·rw[e1,Tm.Qs] at k
   cases k
  ·rw[e2] at k
   omega
 have h1:=no i j hi hj ep el;have h2:=no j i hj hi ep.symm el.symm;have e:i=j:=by omega
 subst e;rfl
theorem check_good {X:List Qi} (h:Gc X=0):Tm.Ml (X.map Qf):=by
 obtain⟨h1,h2,h3⟩:=Vj h;refine⟨Bo h1,fun r hr=>?_,fun r hr=>?_,by rw[List.length_map];omega⟩
 ·obtain⟨y,hy,rfl⟩:=List.mem_map.1 hr
  obtain⟨m,hm,-⟩:=Wl (h3 y hy);exact majN_ne hm
 ·obtain⟨y,hy,rfl⟩:=List.mem_map.1 hr
  obtain⟨m,-,hok,-⟩:=Wl (h3 y hy);have:=Wk hok;exact⟨this.1,this.2.1⟩
theorem chkQ_zero {q:Tm.Qw} {b:Option Tm.Qk} (h:T2 q b=0):q.set≠[]∧q.set=Tm.Q9 q.set:=by
 unfold T2 at h
 split at h
 ·split at h
  ·cases h
  ·rename_i hn
   split at h
   ·rename_i hc
    exact⟨hn,hc⟩
   ·cases h
 ·cases h
theorem Oc:∀(l:List Tm.Qw) (b:Option Tm.Qk),T4 b l=0→∀ q∈l,q.set≠[]∧q.set=Tm.Q9 q.set
 |[],_,_=>fun q hq=>by cases hq
 | x::l,b,h=>by
   rw[T4] at h
   split at h
   ·rename_i hx
    intro q hq;rcases List.mem_cons.1 hq with rfl|hq
    ·exact chkQ_zero hx
    ·exact Oc l _ h q hq
   ·rename_i hx
    exact absurd h hx
theorem chkR_zero {l:List Tm.Qw} (h:U5 l=0):∀ q∈l,q.set≠[]∧q.set=Tm.Q9 q.set:=by
 unfold U5 at h
 split at h
 ·cases h
 ·exact Oc l none h
theorem up_of {q:Tm.Qw} (h:q.set≠[]∧q.set=Tm.Q9 q.set) (hu:My q.set=true):Tm.UpS q:=by
 obtain⟨h1,h2⟩:=h;have hc:=Tm.Wc q.set;unfold My at hu;rw[←h2] at hc hu
 match hq:q.set,hc,hu,h1 with
 |[x],hc,hu,_ =>obtain⟨c1,c2,c3,-⟩:=hc;have hx:x.2=1000000:=of_decide_eq_true hu;exact⟨x.1,c1,by omega,by rw[hq,←hx]⟩
theorem upL_of {l:List Tm.Qw} (h:U5 l=0) (hu:Bm l=true):∀ q∈l,Tm.UpS q:=fun q hq=>up_of (chkR_zero h q hq) (List.all_eq_true.1 hu q hq)
theorem Oz {X:List Qi} {roots:List Tm.Qw} (h:X5 X roots=true) (hg:Tm.Jm (X.map Qf)=true):Tm.Ua (X.map Qf) roots:=by unfold X5 at h;simp only[Bool.and_eq_true,decide_eq_true_eq] at h;obtain⟨h1,h2,h3,h4⟩:=h;obtain⟨c1,c2,c3⟩:=Vj h1;refine⟨check_good h1,c1,upL_of h2 h3,fun r hr q hq=>?_,hg⟩;obtain⟨y,hy,rfl⟩:=List.mem_map.1 hr;obtain⟨m,-,-,-,hr0⟩:=Wl (c3 y hy);exact upL_of hr0 (List.all_eq_true.1 h4 y hy) q hq
theorem Iz {X:List Qi} {roots:List Tm.Qw} (h:X5 X roots=true):Wr X roots=true∧∀ r∈X,O1 r:=by unfold X5 at h;simp only[Bool.and_eq_true,decide_eq_true_eq] at h;obtain⟨h1,h2,h3,h4⟩:=h;refine⟨by unfold Wr;rw[h1,h2];rfl,fun r hr=>?_⟩;obtain⟨m,-,hok,-⟩:=Wl ((Vj h1).2.2 r hr);exact hok
end Go.Proofs.YtiefajiebebgoaaGreatDoor
