/- Lemmas and contracts on what the walks need, several small texts in one. Conditions: as each theorem states. -/
import Derived.Test.YtiefajiebebgoaaGreatDoorQHd
import Derived.Test.YtiefajiebebgoaaGreatDoorQPe
import Derived.Test.YtiefajiebebgoaaGreatDoorQPc
import Derived.Test.YtiefajiebebgoaaGreatDoorQPa
import Derived.Test.YtiefajiebebgoaaGreatDoorQPb
import Derived.ProofKit
import Derived.OpenShut
set_option maxRecDepth 20000
set_option maxHeartbeats 8000000
open Go.Proofs.Tryz
namespace Go.Proofs.YtiefajiebebgoaaGreatDoor
set_option linter.unusedVariables false
open Go.RowKit Go.Shelf
attribute [local go_sem] Oper.semAt_some
theorem G5.any {w:World} {F:Nat→Prop} {g:Nat} {v:Value} {X:List Qi} {mb n:Nat} {M:Lit→Option Value} (h:G5 w F g v X mb n M):G5 w (fun _=>True) g v X mb n M where
 fg:=trivial
 lt:=h.lt
 c0:=h.c0
 c1:=h.c1
 fm:=trivial
 map:=h.map
 row p:=by obtain⟨A,c,e,hr⟩:=h.row p;exact⟨A,c,e,hr.mono fun _ _=>trivial⟩
def Zg (r:Qi):Zy:=(r.path,r.major,r.minor,r.patch)
theorem Vx:(prog.info? 38).map (fun i=>(i.zero,i.size,i.bytes))=some (some (.agg #[.string ⟨#[]⟩,.int .i64 0,.int .i64 0,.int .i64 0]),4,40):=by kernel_rfl
theorem St.selOf {lo:Nat} {w0 w:World} {Rs:List Q3} {v:Value} {n:Nat} {s:List Zy} (h:St lo w0 w (Qh 38 4 v n (s.flatMap Wm)::Rs)) (hn:n=s.length):Xz w (fun k=>lo≤k) v s:=by
 obtain⟨A,c,rfl,g1,g2⟩:=Q4 h.own;subst hn;refine⟨A,c,rfl,g1,g2,?_⟩;rcases Nat.eq_zero_or_pos s.length with h0|h0
 ·exact .inl (by rw[List.eq_nil_of_length_eq_zero h0];rfl)
 ·obtain⟨g,c',eA,hg,-,-⟩:=Zx h.own h0
  obtain⟨rfl,-,rfl⟩:=Value.slice.inj eA;refine .inr ⟨g,0,rfl,h.ownLo.1,h.ownLo.2,fun i hi=>?_⟩;rw[Nat.zero_add];exact(h.cellAt (List.getElem?_eq_getElem hi)).1
theorem Sk (X:List Qi) (roots:List Tm.Qw) (v iv u:Value) (F G:Nat→Prop) (w:World) (h:Qx w F v X) (h2:Qt w G u roots) (hs:Wp X) (hs2:∀ q∈roots,Zu q) (hiv:iv.cells.size=1) (hg:Ji w)
 (hp:X5 X roots=true) (hX2:X.length≤1048576) (hXr:∀ r∈X,K9 r) (hQ:roots.length≤1048576):
 Calls prog 29 #[.agg #[v,iv],.func (.func 30) #[] #[],u] w fun e w'=>Below w.heap.size w w'∧((e=.returned (.tuple #[.slice none 0 0,.int .i64 6])∧Tm.Bh (X.map Qf) roots)∨
  ∃(A:Option Addr) (c:Nat) (L:List Nat),e=.returned (.tuple #[.slice A L.length c,.int .i64 0])∧¬ Tm.Bh (X.map Qf) roots∧Tm.Ub (X.map Qf) roots L∧Xz w' (fun k=>w.heap.size≤k) (.slice A L.length c) (L.map fun i=>Zg (xD X i))):=by
 have hok:=(Iz hp).2;obtain⟨A,c,rfl⟩:∃ A c,v=.slice A X.length c:=by obtain⟨A,c,e,-⟩:=h;exact⟨A,c,e⟩
 obtain⟨N,hN⟩:∃ N,X.length=N:=⟨_,rfl⟩;rw[hN] at h ⊢;obtain⟨A2,n2,c2,rfl⟩:∃ A n c,u=.slice A n c:=by obtain⟨A,c,M,-,e,-⟩:=h2;exact⟨A,_,c,e⟩
 obtain⟨W0,hW0⟩:∃ W0,w.alloc (.cells #[.slice A N c,iv] 25)=W0:=⟨_,rfl⟩;have y0:=(St.nil w).alloc 25 #[.slice A N c,iv];rw[hW0] at y0;have x0:=y0.blk.cell 0;have x1:=y0.blk.cell 1;have z0:Below w.heap.size w W0:=y0.below;have k1:=Sr X roots _ iv _ _ _ W0 (h.below z0) (h2.below z0) hs hs2 hiv (hg.below z0);rw[hp] at k1;have HX:=Kd10 h h2 hs hs2 hiv hX2 hXr hQ hok hN;have Y0:=Kd y0;clear h h2 hs hs2 hg hp hXr hQ hok z0 y0 hN;go_enter func29,ntmps29;go_wp2_with fail;refine k1.mono ?_;rintro e w1 ⟨rfl,z1⟩;have y1:=Y0.out.under z1;have u0:=y1.blk.cell 0;have u1:=y1.blk.cell 1;have k2:=M5 X _ iv _ w1 (HX.out.1.below y1.below) HX.out.2.2.1 hX2 hiv;have Y1:=Kd y1;clear k1 z1 y1 x0 x1 hW0;go_wp2_with fail;refine k2.mono ?_;rintro e w2 ⟨g,mb,n,M,R,rfl,hM,hR,s2⟩;have hwd:=(wd_of s2 hM hR).any;have k3:=choose_spec X roots g mb n _ _ M (fun _=>True) w2 hwd ((HX.out.1.below (Y1.out.below.trans (s2.below.mono Y1.out.size))).mono fun _ _=>trivial) ((HX.out.2.1.below (Y1.out.below.trans (s2.below.mono Y1.out.size))).mono fun _ _=>trivial) HX.out.2.2.2.1 HX.out.2.2.2.2.2.2.2.2.1 hX2 HX.out.2.2.2.2.2.2.1 HX.out.2.2.2.2.2.2.2.1;have Y2:=Kd ((Y1.out.graft s2).pk [0,1]);clear k2 hwd s2 hM hR u0 u1;go_wp2_with fail;refine k3.mono ?_;rintro e w3 (⟨rfl,hm,h3⟩|⟨A3,c3,L,rfl,hm,hc,hl,h3⟩)
 ·have H3:=Kd2 hm (Y2.out.graft h3)
  clear hm h3 k3;go_wp2;go_ret2;exact⟨H3.out.2.below,.inl ⟨rfl,H3.out.1⟩⟩
 ·obtain⟨K,hK⟩:∃ K,L.length=K:=⟨_,rfl⟩
  have h3:=(Y2.out.graft h3).pk [0,1];rw[hK] at h3 hl ⊢;have H3:=Kd3 hm hc hK;have S3:=Kd h3;clear hm hc h3 k3 hK;go_wp2
  go_loopw [32,11] (fun i o wr=>∃(k:Nat),k≤K∧i=.int .i64 k∧Hid (St w.heap.size w wr [Qh 38 4 o k (((L.take k).map fun i=>Zg (xD X i)).flatMap Wm),Qh 3 1 (.slice A3 K c3) K (Q8 L),Qa g 108 #[.slice A N c,.map (some mb)]])) (fun i _ _=>K-(intOf i).toNat)
  case atStart=>exact⟨0,Nat.zero_le _,rfl,Kd (S3.out.new_own (Below.refl _ w3) ⟨rfl,.inl ⟨rfl,rfl⟩⟩)⟩
  case round=>
   obtain⟨k,hk,rfl,hst⟩:=hrel
   by_cases hlt:k<K
   ·obtain⟨hm,hc,hK⟩:=H3.out
    have hkL:k<L.length :=(by omega);obtain⟨i,hi⟩:∃ i,L[k]?=some i:=⟨_,List.getElem?_eq_getElem hkL⟩;have hiN:i<X.length :=(by obtain⟨r,hr,-⟩:=((hc.elem i).1 (List.mem_of_getElem? hi)).1.there;have:=(List.getElem?_eq_some_iff.1 hr).1;rw[List.length_map] at this;exact this);obtain⟨r,hr⟩:∃ r,X[i]?=some r:=⟨_,List.getElem?_eq_getElem hiN⟩;have hxr:xD X i=r :=(by rw[Uq hiN];exact(List.getElem?_eq_some_iff.1 hr).2);have htk:(L.take (k+1)).map (fun i=>Zg (xD X i))=(L.take k).map (fun i=>Zg (xD X i))++[Zg r] :=(by rw[List.take_succ_eq_append_getElem hkL,List.map_append,(List.getElem?_eq_some_iff.1 hi).2,List.map_singleton,hxr]);obtain⟨g3,c3',eA,-,-,-⟩:=Zx hst.out.tail.own (by omega);obtain⟨rfl,-,rfl⟩:=Value.slice.inj eA;obtain⟨ci,-⟩:=hst.out.tail.cellAt (j:=k) (u:=.int .i64 (i:Int)) (by unfold Q8;rw[List.getElem?_map,hi];rfl);have cg:=(hst.out.pk [2]).blk.cell 0;obtain⟨Ax,cx,ex,-,-,hrd,hq⟩:=HX.out.1.below hst.out.below;obtain⟨rfl,-,rfl⟩:=Value.slice.inj ex;obtain⟨b',off',rfl,hbl',ra⟩:=Vo hrd hr;obtain⟨A',n',c',hrv⟩:∃ A n c,r.rv=.slice A n c :=(by obtain⟨A,c,M,-,e,-⟩:=hq r (List.mem_of_getElem? hr);exact⟨A,_,c,e⟩);have ks:=Mz r wr;unfold Fa Xi at ks;have hN:=HX.out.2.2.2.2.2.2.2.2.2;obtain⟨pa,ma,mi,pt,rq,rv,ar,ifc,ce,ya⟩:=r;dsimp only at ks hrv;subst hrv;obtain⟨a0,a1,a2,a3,a4,a5,a6,a7,a8⟩:=ra;dsimp only at a0 a1 a2 a3 a4 a5 a6 a7 a8;have i0:(0:Int)≤(k:Int):=Int.natCast_nonneg _;have i1:(k:Int)<(K:Int):=Int.ofNat_lt.2 hlt;have i2:(0:Int)≤(i:Int):=Int.natCast_nonneg _;have i3:(i:Int)<(N:Int) :=(by omega);have q1:k+1≤maxLen :=(by unfold maxLen;omega);have q2:(k+1)*40≤140737488355328 :=(by omega);have KL:=Kd2 hlt htk;have S4:=Kd hst.out;clear hm hc hK hkL hi hiN hr hxr htk eA hrd hq ex hst hN;go_wp2_with fail;refine ks.mono ?_;rintro e w5 ⟨rfl,z5⟩;have S5:=Kd (S4.out.under z5);clear ks z5;go_wp2_with (at_builtin;go_must (refine Nc 30 #[.string ⟨pa.toArray⟩,.int .i64 ma,.int .i64 mi,.int .i64 pt] S5.out underlying30 Vx rfl (by decide) rfl _ _ rfl rfl rfl rfl (by intro u hu;simp at hu;rcases hu with rfl|rfl|rfl|rfl<;>rfl) q1 q2 ?_);intro v2 w8 h9);have H9:=Kd h9;clear h9;go_wp2
    go_roundw
    case rel=>exact⟨k+1,Nat.succ_le_of_lt KL.out.1,by go_num,Kd (by rw[KL.out.2,List.flatMap_append];exact H9.out)⟩
    case measure=>have:=KL.out.1;simp[intOf];omega
   ·obtain rfl:k=K:=Nat.le_antisymm hk (Nat.le_of_not_lt hlt)
    have hge:decide ((k:Int)<(k:Int))=false :=(by simp);obtain⟨Ao,co,rfl,-,-⟩:=Q4 hst.out.own;have hf:=(hst.out.pk [0]);have hb:=hst.out.below;have hf2:St w.heap.size w wr [Qh 38 4 (.slice Ao k co) k ((L.map fun i=>Zg (xD X i)).flatMap Wm)] :=(by rw[List.take_of_length_le (by rw[H3.out.2.2];exact Nat.le_refl _)] at hf;exact hf);have hse:=hf2.selOf (by rw[List.length_map,H3.out.2.2]);have HF:=Kd2 hb hse;clear hf hf2 hse hb hst;go_wp2;go_ret2;refine⟨HF.out.1,.inr ⟨Ao,co,L,?_,H3.out.1,H3.out.2.1,?_⟩⟩
    ·rw[H3.out.2.2]
     rfl
    ·rw[H3.out.2.2]
     exact HF.out.2
theorem Nt (X:List Qi) (roots:List Tm.Qw) (v iv u:Value) (F G:Nat→Prop) (w:World) (h:Qx w F v X) (h2:Qt w G u roots) (hs:Wp X) (hs2:∀ q∈roots,Zu q) (hiv:iv.cells.size=1) (hg:Ji w)
 (hp:X5 X roots=true) (hX2:X.length≤1048576) (hXr:∀ r∈X,K9 r) (hQ:roots.length≤1048576):
 Calls prog 8 #[.agg #[v,iv],u] w fun e w'=>Below w.heap.size w w'∧((e=.returned (.tuple #[.slice none 0 0,.int .i64 6])∧Tm.Bh (X.map Qf) roots)∨
  ∃(A:Option Addr) (c:Nat) (L:List Nat),e=.returned (.tuple #[.slice A L.length c,.int .i64 0])∧¬ Tm.Bh (X.map Qf) roots∧Tm.Ub (X.map Qf) roots L∧Xz w' (fun k=>w.heap.size≤k) (.slice A L.length c) (L.map fun i=>Zg (xD X i))):=by
 obtain⟨A,c,rfl⟩:∃ A c,v=.slice A X.length c:=by obtain⟨A,c,e,-⟩:=h;exact⟨A,c,e⟩
 obtain⟨N,hN⟩:∃ N,X.length=N:=⟨_,rfl⟩;rw[hN] at h ⊢;obtain⟨A2,n2,c2,rfl⟩:∃ A n c,u=.slice A n c:=by obtain⟨A,c,M,-,e,-⟩:=h2;exact⟨A,_,c,e⟩
 obtain⟨W0,hW0⟩:∃ W0,w.alloc (.cells #[.slice A N c,iv] 25)=W0:=⟨_,rfl⟩;have y0:=(St.nil w).alloc 25 #[.slice A N c,iv];rw[hW0] at y0;have x0:=y0.blk.cell 0;have x1:=y0.blk.cell 1;have z0:Below w.heap.size w W0:=y0.below;have k1:=Sk X roots _ iv _ _ _ W0 (h.below z0) (h2.below z0) hs hs2 hiv (hg.below z0) hp hX2 hXr hQ;have Z0:=Kd z0;clear h h2 hs hs2 hg hp hXr hQ y0 z0 hN;go_enter func8,ntmps8;go_wp2_with fail;refine k1.mono ?_;rintro e w1 ⟨z1,⟨rfl,hm⟩|⟨A3,c3,L,rfl,hm,hc,hse⟩⟩
 ·have Z1:=Kd2 z1 hm
  clear k1 z1 hm hW0;go_wp2;go_ret2;exact⟨Z0.out.trans (Z1.out.1.mono Z0.out.size),.inl ⟨rfl,Z1.out.2⟩⟩
 ·obtain⟨K,hK⟩:∃ K,L.length=K:=⟨_,rfl⟩
  rw[hK] at hse ⊢;have Z1:=Kd5 z1 hm hc hK hse;clear k1 z1 hm hW0 hc hse hK;go_wp2;go_ret2;refine⟨Z0.out.trans (Z1.out.1.mono Z0.out.size),.inr ⟨A3,c3,L,by rw[Z1.out.2.2.2.1];rfl,Z1.out.2.1,Z1.out.2.2.1,?_⟩⟩;rw[Z1.out.2.2.2.1];exact Z1.out.2.2.2.2.mono fun k hk=>Nat.le_trans Z0.out.size hk
theorem grows_drop {x:List Tm.Qp} {k:Nat} {a b:Tm.Qp} (ha:x[k]?=some a) (hb:x[k+1]?=some b):Tm.Jm (x.drop k)=(((!(a.path==b.path))||a.reqs.all fun q=>b.reqs.any fun p=>p.path==q.path&&Tm.Fn p.set q.set)&&Tm.Jm (x.drop (k+1))):=by obtain⟨h1,e1⟩:=List.getElem?_eq_some_iff.1 ha;obtain⟨h2,e2⟩:=List.getElem?_eq_some_iff.1 hb;rw[List.drop_eq_getElem_cons h1,List.drop_eq_getElem_cons h2,Tm.Jm,e1,e2]
theorem grows_end {x:List Tm.Qp} {k:Nat} (h:x.length≤k+1):Tm.Jm (x.drop k)=true:=by
 cases hd:x.drop k with
 |nil=>rfl
 | cons a l=>
   cases l with
   |nil=>rfl
   |cons b l =>have:=congrArg List.length hd;rw[List.length_drop,List.length_cons,List.length_cons] at this;omega
theorem Lb (L:List Tm.Qw) (v:Value) (F:Nat→Prop) (q:Tm.Qw) (u:Value) (G:Nat→Prop) (g:Nat) (w:World) (h:Qt w F v L) (hs:∀ p∈L,Zu p) (h2:Qr w G u q.set) (hg0:w.cell? ⟨g,0,none⟩=some (.string ⟨q.path.toArray⟩)) (hg1:w.cell? ⟨g,1,none⟩=some u) (hq:Zu q):
 Calls prog 26 #[v,.func (.func 27) #[] #[.pointer (some ⟨g,0,none⟩)]] w fun e w'=>e=.returned (.bool (L.any fun p=>p.path==q.path&&Tm.Fn p.set q.set))∧Below w.heap.size w w':=by
 obtain⟨A,c,M,rfl,rfl,hc1,hc2,hr,hm⟩:=h;have hgl:=World.block_lt_of_cell? w _ hg0
 have k:=Vl 27 #[.pointer (some ⟨g,0,none⟩)] (enters_of func27 (by kernel_rfl) rfl) A M.length c (fun j=>.string ⟨(mD M j).1.path.toArray⟩) (fun j=>(mD M j).2) (fun j=>(mD M j).1.path==q.path&&Tm.Fn (mD M j).1.set q.set) w (Nat.le_trans hc1 hc2)
  (fun j hj=>by
    obtain⟨b,off,e,hb,c0,c1⟩:=Jk hr hj;rw[Eq hj]
    exact⟨b,off,e,hb,c0,c1⟩)
  (fun j W hj hb=>by
    rw[Eq hj]
    exact grows1_spec M[j].1 q M[j].2 u _ _ g W ((hm M[j] (List.getElem_mem hj)).below hb) (h2.below hb) ((hb.cell hgl).trans hg0) ((hb.cell (p:=⟨g,1,none⟩) hgl).trans hg1) (hs _ (List.mem_map.2 ⟨M[j],List.getElem_mem hj,rfl⟩)) hq)
 refine k.mono ?_;rintro e w' ⟨b,rfl,z,hb⟩;refine⟨?_,z⟩;have h1:=hb.list (L:=M) (q:=fun m=>m.1.path==q.path&&Tm.Fn m.1.set q.set) (fun j hj=>by rw[Eq hj]);rw[h1,List.any_map];rfl
theorem grows_spec (X:List Qi) (v iv:Value) (F:Nat→Prop) (w:World) (h:Qx w F v X) (hs:Wp X) (hX2:X.length≤1048576) (hiv:iv.cells.size=1):
 Calls prog 7 #[.agg #[v,iv]] w fun e w'=>e=.returned (.bool (Tm.Jm (X.map Qf)))∧Below w.heap.size w w':=by
 obtain⟨A,c,rfl,hc1,hc2,hr,hq⟩:=h;obtain⟨N,hN⟩:∃ N,X.length=N:=⟨_,rfl⟩;rw[hN] at hX2 ⊢;obtain⟨W0,hW0⟩:∃ W0,w.alloc (.cells #[.slice A N c,iv] 25)=W0:=⟨_,rfl⟩;have y0:=(St.nil w).alloc 25 #[.slice A N c,iv];rw[hW0] at y0;obtain⟨res,hres⟩:∃ res,Tm.Jm (X.map Qf)=res:=⟨_,rfl⟩;rw[hres];have HX:=Kd4 hN (fun j r (hj:X[j]?=some r)=>Vo hr hj) hs hq;have HR:=Kd hres;have Y0:=Kd y0;clear hN hr hs hq hres y0 hc1 hc2;go_enter func7,ntmps7;go_wp2
 go_loopw [3] (fun i wr=>∃(k:Nat),i=.int .i64 ((k:Int)+1)∧(k≤N)∧Hid (res=Tm.Jm ((X.map Qf).drop k))∧Hid (St w.heap.size w wr [Qa w.heap.size 25 #[.slice A N c,iv]])) (fun i _=>N+1-(intOf i).toNat)
 case atStart=>exact⟨0,rfl,Nat.zero_le _,Kd HR.out.symm,Y0⟩
 case round=>
  obtain⟨k,rfl,hk,hp,hst⟩:=hrel;have x0:=hst.out.blk.cell 0
  by_cases hlt:k+1<N
  ·have hl1:(k:Int)+1<(N:Int):=by omega
   obtain⟨hN,hrs,hs,hq⟩:=HX.out;obtain⟨ra_,hra⟩:∃ r,X[k]?=some r:=⟨_,List.getElem?_eq_getElem (by omega)⟩;obtain⟨rb_,hrb⟩:∃ r,X[k+1]?=some r:=⟨_,List.getElem?_eq_getElem (by omega)⟩;obtain⟨b,off,rfl,hbl,ra⟩:=hrs k _ hra;obtain⟨b',off',eb,-,rb⟩:=hrs (k+1) _ hrb;obtain⟨rfl,rfl⟩:b=b'∧off=off':=by injection eb with eb;injection eb with e1 e2;exact⟨e1,e2⟩
   have RA:=Kd2 (fun W (h:Below w.heap.size w W)=>ra.below h hbl) (fun W (h:Below w.heap.size w W)=>rb.below h hbl);have hgd:=grows_drop (x:=X.map Qf) (k:=k) (a:=Qf ra_) (b:=Qf rb_) (by rw[List.getElem?_map,hra];rfl) (by rw[List.getElem?_map,hrb];rfl);have hqa:=hq _ (List.mem_of_getElem? hra);have hqb:=hq _ (List.mem_of_getElem? hrb);have hsa:=(hs _ (List.mem_of_getElem? hra)).reqs;have hsb:=(hs _ (List.mem_of_getElem? hrb)).reqs;obtain⟨pa1,ma1,mi1,pt1,rq1,rv1,ar1,ifc1,ce1,ya1⟩:=ra_;obtain⟨pa2,ma2,mi2,pt2,rq2,rv2,ar2,ifc2,ce2,ya2⟩:=rb_;dsimp only at hqa hqb hsa hsb hgd RA;obtain⟨A1,c1,M1,rfl,rfl,hc3,hc4,hr1,hm1⟩:=hqa;have hnm:M1.length≤9223372036854775807:=Nat.le_trans hc3 (Nat.le_trans hc4 (by decide));clear hc3 hc4;obtain⟨n1,hn1⟩:∃ n1,M1.length=n1:=⟨_,rfl⟩;obtain⟨A2,n2,c2,rfl⟩:∃ A n c,rv2=.slice A n c :=(by obtain⟨A,c,M,-,e,-⟩:=hqb;exact⟨A,_,c,e⟩);rw[hn1] at RA hnm;have HQ:=Kd7 hn1 hr1 hm1 hqb hsa hsb hgd;have i0:(0:Int)≤(k:Int):=Int.natCast_nonneg _;have i1:(k:Int)<(N:Int) :=(by omega);have i2:(0:Int)≤(k:Int)+1 :=(by omega);clear ra rb hgd hqb hsa hsb hr1 hm1 hn1 hN hrs hs hq hra hrb eb;have w1:IntKind.i64.wrap (k:Int)=(k:Int) :=(by rw[IntKind.wrap_i64];omega);have hS:∀ W',Below wr.heap.size wr W'→W'.cell? ⟨w.heap.size,0,none⟩=some (.slice (some ⟨b,off,none⟩) N c)∧W'.cell? ⟨b,off+k*9,none⟩=some (.string ⟨pa1.toArray⟩)∧W'.cell? ⟨b,off+k*9+1,none⟩=some (.int .i64 ma1)∧W'.cell? ⟨b,off+k*9+2,none⟩=some (.int .i64 mi1)∧W'.cell? ⟨b,off+k*9+3,none⟩=some (.int .i64 pt1)∧W'.cell? ⟨b,off+k*9+4,none⟩=some (.slice A1 n1 c1)∧W'.cell? ⟨b,off+k*9+5,none⟩=some (.string ⟨ar1.toArray⟩)∧W'.cell? ⟨b,off+k*9+6,none⟩=some (.string ⟨ifc1.toArray⟩)∧W'.cell? ⟨b,off+k*9+7,none⟩=some (.string ⟨ce1.toArray⟩)∧W'.cell? ⟨b,off+k*9+8,none⟩=some (.bool ya1)∧W'.cell? ⟨b,off+(k+1)*9,none⟩=some (.string ⟨pa2.toArray⟩)∧W'.cell? ⟨b,off+(k+1)*9+1,none⟩=some (.int .i64 ma2)∧W'.cell? ⟨b,off+(k+1)*9+2,none⟩=some (.int .i64 mi2)∧W'.cell? ⟨b,off+(k+1)*9+3,none⟩=some (.int .i64 pt2)∧W'.cell? ⟨b,off+(k+1)*9+4,none⟩=some (.slice A2 n2 c2)∧W'.cell? ⟨b,off+(k+1)*9+5,none⟩=some (.string ⟨ar2.toArray⟩)∧W'.cell? ⟨b,off+(k+1)*9+6,none⟩=some (.string ⟨ifc2.toArray⟩)∧W'.cell? ⟨b,off+(k+1)*9+7,none⟩=some (.string ⟨ce2.toArray⟩)∧W'.cell? ⟨b,off+(k+1)*9+8,none⟩=some (.bool ya2):=fun W' hb=>by have z:=hst.out.under hb;obtain⟨a0,a1,a2,a3,a4,a5,a6,a7,a8⟩:=RA.out.1 W' z.below;obtain⟨b0,b1,b2,b3,b4,b5,b6,b7,b8⟩:=RA.out.2 W' z.below;exact⟨z.blk.cell 0,a0,a1,a2,a3,a4,a5,a6,a7,a8,b0,b1,b2,b3,b4,b5,b6,b7,b8⟩
   have HS:=Kd hS;have r0:=Below.refl wr.heap.size wr;clear hS;go_wp2_with fail;refine wp_region_noPanic ?_;refine wp_region_held_drew (S:=(fun W'=>W'.cell? ⟨w.heap.size,0,none⟩=some (.slice (some ⟨b,off,none⟩) N c)∧W'.cell? ⟨b,off+k*9,none⟩=some (.string ⟨pa1.toArray⟩)∧W'.cell? ⟨b,off+k*9+1,none⟩=some (.int .i64 ma1)∧W'.cell? ⟨b,off+k*9+2,none⟩=some (.int .i64 mi1)∧W'.cell? ⟨b,off+k*9+3,none⟩=some (.int .i64 pt1)∧W'.cell? ⟨b,off+k*9+4,none⟩=some (.slice A1 n1 c1)∧W'.cell? ⟨b,off+k*9+5,none⟩=some (.string ⟨ar1.toArray⟩)∧W'.cell? ⟨b,off+k*9+6,none⟩=some (.string ⟨ifc1.toArray⟩)∧W'.cell? ⟨b,off+k*9+7,none⟩=some (.string ⟨ce1.toArray⟩)∧W'.cell? ⟨b,off+k*9+8,none⟩=some (.bool ya1)∧W'.cell? ⟨b,off+(k+1)*9,none⟩=some (.string ⟨pa2.toArray⟩)∧W'.cell? ⟨b,off+(k+1)*9+1,none⟩=some (.int .i64 ma2)∧W'.cell? ⟨b,off+(k+1)*9+2,none⟩=some (.int .i64 mi2)∧W'.cell? ⟨b,off+(k+1)*9+3,none⟩=some (.int .i64 pt2)∧W'.cell? ⟨b,off+(k+1)*9+4,none⟩=some (.slice A2 n2 c2)∧W'.cell? ⟨b,off+(k+1)*9+5,none⟩=some (.string ⟨ar2.toArray⟩)∧W'.cell? ⟨b,off+(k+1)*9+6,none⟩=some (.string ⟨ifc2.toArray⟩)∧W'.cell? ⟨b,off+(k+1)*9+7,none⟩=some (.string ⟨ce2.toArray⟩)∧W'.cell? ⟨b,off+(k+1)*9+8,none⟩=some (.bool ya2))) (by kernel_rfl) ?_ (fun hH0=>?_)
   ·(
     refine HS.out _ ?_
     repeat (first
      |exact r0
      |refine Below.drew ?_
      |refine Below.alloc ?_ (by simp) _
      |refine Below.setCell ?_ (by simp) _))
   refine tk 0 15 hH0 ?_;refine tk 1 16 hH0 ?_;refine tk 2 17 hH0 ?_;refine tk 3 18 hH0 ?_;refine tk 4 19 hH0 ?_;refine tk 5 20 hH0 ?_;refine tk 6 21 hH0 ?_;refine tk 7 22 hH0 ?_;refine tk 8 23 hH0 ?_;refine tk 9 24 hH0 ?_;refine tk 10 25 hH0 ?_;refine Zk [11,12] ?_;refine ad 4 (fun K hK=>?_) ?_;go_simp;refine hK.out _ _ ?_ (fun hH1=>?_)
   ·(
     refine HS.out _ ?_
     repeat (first
      |exact r0
      |refine Below.drew ?_
      |refine Below.alloc ?_ (by simp) _
      |refine Below.setCell ?_ (by simp) _))
   clear hK K hH0
   try simp only[pu]
   refine Zk [12] ?_;refine an 5 fun K hK=>?_;go_simp;refine hK.out _ _ ?_ (fun hH2=>?_)
   ·(
     refine HS.out _ ?_
     repeat (first
      |exact r0
      |refine Below.drew ?_
      |refine Below.alloc ?_ (by simp) _
      |refine Below.setCell ?_ (by simp) _))
   clear hK K hH1
   try simp only[pu]
   refine Zk [13] ?_;refine az fun K hK=>?_;go_simp;refine hK.out _ _ ?_ (fun hH3=>?_)
   ·(
     refine HS.out _ ?_
     repeat (first
      |exact r0
      |refine Below.drew ?_
      |refine Below.alloc ?_ (by simp) _
      |refine Below.setCell ?_ (by simp) _))
   clear hK K hH2
   try simp only[pu]
   refine Zk [14] ?_;refine az fun K hK=>?_;go_simp;refine hK.out _ _ ?_ (fun hH4=>?_)
   ·(
     refine HS.out _ ?_
     repeat (first
      |exact r0
      |refine Below.drew ?_
      |refine Below.alloc ?_ (by simp) _
      |refine Below.setCell ?_ (by simp) _))
   clear hK K hH3
   try simp only[pu]
   refine dn ?_ _;rotate_left 1;refine an 5 fun K hK=>?_;go_simp;refine hK.out _ _ ?_ (fun hH5=>?_)
   ·(
     refine HS.out _ ?_
     repeat (first
      |exact r0
      |refine Below.drew ?_
      |refine Below.alloc ?_ (by simp) _
      |refine Below.setCell ?_ (by simp) _))
   clear hK K hH0
   try simp only[pu]
   refine Zk [11] ?_;refine an 4 fun K hK=>?_;go_simp;refine hK.out _ _ ?_ (fun hH6=>?_)
   ·(
     refine HS.out _ ?_
     repeat (first
      |exact r0
      |refine Below.drew ?_
      |refine Below.alloc ?_ (by simp) _
      |refine Below.setCell ?_ (by simp) _))
   clear hK K hH5
   try simp only[pu]
   refine Zk [13] ?_;refine az fun K hK=>?_;go_simp;refine hK.out _ _ ?_ (fun hH7=>?_)
   ·(
     refine HS.out _ ?_
     repeat (first
      |exact r0
      |refine Below.drew ?_
      |refine Below.alloc ?_ (by simp) _
      |refine Below.setCell ?_ (by simp) _))
   clear hK K hH6
   try simp only[pu]
   refine Zk [14] ?_;refine az fun K hK=>?_;go_simp;refine hK.out _ _ ?_ (fun hH8=>?_)
   ·(
     refine HS.out _ ?_
     repeat (first
      |exact r0
      |refine Below.drew ?_
      |refine Below.alloc ?_ (by simp) _
      |refine Below.setCell ?_ (by simp) _))
   clear hK K hH7
   try simp only[pu]
   refine dn ?_ _
   all_goals(refine NoPanic.normal ?_)
   all_goals clear r0 HS
   all_goals(first
    | (have y2:=((hst.out.alloc 46 #[.string ⟨pa1.toArray⟩,.int .i64 ma1,.int .i64 mi1,.int .i64 pt1,.slice A1 n1 c1,.string ⟨ar1.toArray⟩,.string ⟨ifc1.toArray⟩,.string ⟨ce1.toArray⟩,.bool ya1]).alloc 46 #[.string ⟨pa2.toArray⟩,.int .i64 ma2,.int .i64 mi2,.int .i64 pt2,.slice A2 n2 c2,.string ⟨ar2.toArray⟩,.string ⟨ifc2.toArray⟩,.string ⟨ce2.toArray⟩,.bool ya2]).drew.swap
       simp only[World.size_alloc] at y2;obtain⟨W2,hW2⟩:∃ W2,((wr.alloc (.cells #[.string ⟨pa1.toArray⟩,.int .i64 ma1,.int .i64 mi1,.int .i64 pt1,.slice A1 n1 c1,.string ⟨ar1.toArray⟩,.string ⟨ifc1.toArray⟩,.string ⟨ce1.toArray⟩,.bool ya1] 46)).alloc (.cells #[.string ⟨pa2.toArray⟩,.int .i64 ma2,.int .i64 mi2,.int .i64 pt2,.slice A2 n2 c2,.string ⟨ar2.toArray⟩,.string ⟨ifc2.toArray⟩,.string ⟨ce2.toArray⟩,.bool ya2] 46)).drew=W2:=⟨_,rfl⟩;rw[hW2] at y2;rw[hW2];obtain⟨g5,hg5⟩:∃ g,wr.heap.size+1=g:=⟨_,rfl⟩;obtain⟨g4,hg4⟩:∃ g,wr.heap.size=g:=⟨_,rfl⟩
       rw[hg5,hg4] at y2 ⊢)
    | (have y2:=((hst.out.alloc 46 #[.string ⟨pa2.toArray⟩,.int .i64 ma2,.int .i64 mi2,.int .i64 pt2,.slice A2 n2 c2,.string ⟨ar2.toArray⟩,.string ⟨ifc2.toArray⟩,.string ⟨ce2.toArray⟩,.bool ya2]).alloc 46 #[.string ⟨pa1.toArray⟩,.int .i64 ma1,.int .i64 mi1,.int .i64 pt1,.slice A1 n1 c1,.string ⟨ar1.toArray⟩,.string ⟨ifc1.toArray⟩,.string ⟨ce1.toArray⟩,.bool ya1]).drew
       simp only[World.size_alloc] at y2;obtain⟨W2,hW2⟩:∃ W2,((wr.alloc (.cells #[.string ⟨pa2.toArray⟩,.int .i64 ma2,.int .i64 mi2,.int .i64 pt2,.slice A2 n2 c2,.string ⟨ar2.toArray⟩,.string ⟨ifc2.toArray⟩,.string ⟨ce2.toArray⟩,.bool ya2] 46)).alloc (.cells #[.string ⟨pa1.toArray⟩,.int .i64 ma1,.int .i64 mi1,.int .i64 pt1,.slice A1 n1 c1,.string ⟨ar1.toArray⟩,.string ⟨ifc1.toArray⟩,.string ⟨ce1.toArray⟩,.bool ya1] 46)).drew=W2:=⟨_,rfl⟩;rw[hW2] at y2;rw[hW2];obtain⟨g4,hg4⟩:∃ g,wr.heap.size+1=g:=⟨_,rfl⟩;obtain⟨g5,hg5⟩:∃ g,wr.heap.size=g:=⟨_,rfl⟩
       rw[hg4,hg5] at y2 ⊢))
   all_goals(
    clear hg4 hg5 hW2 hst x0;have d4:=y2.blk.cell 4;have Y2:=Kd y2;clear y2
    (try clear hH4)
    (try clear hH8)
    have hp2:res=((!(pa1==pa2)||(M1.map Prod.fst).all fun q=>rq2.any fun p=>p.path==q.path&&Tm.Fn p.set q.set)&&Tm.Jm ((X.map Qf).drop (k+1))):=hp.out.trans HQ.out.2.2.2.2.2.2;obtain⟨rst,hrst⟩:∃ r,Tm.Jm ((X.map Qf).drop (k+1))=r:=⟨_,rfl⟩;rw[hrst] at hp2;have HR2:=Kd hrst;have HP:=Kd hp2;clear hp2 hrst hp;go_wp2
    go_loopw [29] (fun i wi=>∃ j:Nat,j≤n1∧i=.int .i64 j∧Hid (res=((!(pa1==pa2)||((M1.map Prod.fst).drop j).all fun q=>rq2.any fun p=>p.path==q.path&&Tm.Fn p.set q.set)&&rst))∧Hid (St w.heap.size w wi [Qa g4 46 #[.string ⟨pa1.toArray⟩,.int .i64 ma1,.int .i64 mi1,.int .i64 pt1,.slice A1 n1 c1,.string ⟨ar1.toArray⟩,.string ⟨ifc1.toArray⟩,.string ⟨ce1.toArray⟩,.bool ya1],Qa g5 46 #[.string ⟨pa2.toArray⟩,.int .i64 ma2,.int .i64 mi2,.int .i64 pt2,.slice A2 n2 c2,.string ⟨ar2.toArray⟩,.string ⟨ifc2.toArray⟩,.string ⟨ce2.toArray⟩,.bool ya2],Qa w.heap.size 25 #[.slice (some ⟨b,off,none⟩) N c,iv]])) (fun i _=>n1-(intOf i).toNat)
    case atStart=>exact⟨0,Nat.zero_le _,rfl,HP,Y2⟩
    case round=>
     obtain⟨j,hj,rfl,hp,hst⟩:=hrel
     by_cases hjn:j<n1
     ·obtain⟨hn1,hr1,hm1,hqb,hsa,hsb,-⟩:=HQ.out
      have hjM:j<M1.length :=(by omega);obtain⟨b3,off3,rfl,hb3,e0,e1⟩:=Jk hr1 hjM;rw[←hst.out.below.cell (p:=⟨b3,off3+j*2,none⟩) hb3] at e0;rw[←hst.out.below.cell (p:=⟨b3,off3+j*2+1,none⟩) hb3] at e1;have hset:=hm1 M1[j] (List.getElem_mem hjM);have hsq:=hsa M1[j].1 (List.mem_map.2 ⟨M1[j],List.getElem_mem hjM,rfl⟩);have hp:=hp.out;rw[List.drop_eq_getElem_cons (by rw[List.length_map];exact hjM),List.getElem_map,List.all_cons] at hp;generalize M1[j]=x at e0 e1 hset hsq hp;obtain⟨q,vq⟩:=x;dsimp only at e0 e1 hset hsq hp;obtain⟨Aq,nq,cq,rfl⟩:=hset.shape;obtain⟨W3,hW3⟩:∃ W3,wr.alloc (.cells #[.string ⟨q.path.toArray⟩,.slice Aq nq cq] 43)=W3:=⟨_,rfl⟩;have y3:=hst.out.alloc 43 #[.string ⟨q.path.toArray⟩,.slice Aq nq cq];rw[hW3] at y3;have f0:=y3.blk.cell 0;have f1:=y3.blk.cell 1;have d0:=y3.tail.blk.cell 0;have d5:=y3.tail.tail.blk.cell 0;have d6:=y3.tail.tail.blk.cell 4;have ka:=Lb rq2 _ _ q _ _ wr.heap.size W3 (hqb.keep (Qm.of_below (w:=w) y3.below)) hsb (hset.keep (Qm.of_below (w:=w) y3.below)) f0 f1 hsq;generalize (rq2.any fun p=>p.path==q.path&&Tm.Fn p.set q.set)=ab at ka hp;have i3:(0:Int)≤(j:Int):=Int.natCast_nonneg _;have i4:(j:Int)<(n1:Int):=Int.ofNat_lt.2 hjn;have HP2:=Kd2 hp hjn;have Y3:=Kd y3.tail;clear hn1 hr1 hm1 hqb hsa hsb hset hsq hp y3 hst
      by_cases he:pa1=pa2
      ·have hbe:(pa1==pa2)=true:=beq_iff_eq.2 he
       have HBE:=Kd hbe;subst he;clear hbe;go_wp2_with fail;refine ka.mono ?_;rintro e w5 ⟨rfl,z5⟩;have Y5:=Kd (Y3.out.under (z5.mono (by rw[←hW3];simp)));clear ka z5
       cases ab with
       | true=>
         go_wp2
         go_roundw
         case rel=>exact⟨j+1,Nat.succ_le_of_lt HP2.out.2,by go_num,Kd (by rw[HP2.out.1];simp),Y5⟩
         case measure=>have:=HP2.out.2;simp[intOf];omega
       | false=>
         obtain rfl:res=false:=by rw[HP2.out.1];simp
         go_wp2;go_ret;exact⟨rfl,Y5.out.below⟩
      ·go_wp2
       go_roundw
       case rel=>exact⟨j+1,Nat.succ_le_of_lt HP2.out.2,by go_num,Kd (by rw[HP2.out.1,show (pa1==pa2)=false from beq_eq_false_iff_ne.2 he];simp),Y3⟩
       case measure=>have:=HP2.out.2;simp[intOf];omega
     ·obtain rfl:j=n1:=Nat.le_antisymm hj (Nat.le_of_not_lt hjn)
      have hge:decide ((j:Int)<(j:Int))=false :=(by simp);obtain rfl:res=rst :=(by rw[hp.out,List.drop_eq_nil_of_le (by rw[List.length_map,HQ.out.1];exact Nat.le_refl _)];simp);have w2:IntKind.i64.wrap ((k:Int)+1+1)=(k:Int)+1+1 :=(by rw[IntKind.wrap_i64];omega);have KL:=Kd hlt;go_wp2
      go_roundw
      case rel=>exact⟨k+1,by go_num,by have:=KL.out;omega,Kd HR2.out.symm,Kd (hst.out.tail.tail)⟩
      case measure=>have:=KL.out;simp[intOf];omega)
  ·have hl1:¬((k:Int)+1<(N:Int)):=by omega
   obtain rfl:res=true:=by rw[hp.out];exact grows_end (by rw[List.length_map,HX.out.1];omega)
   have B:=Kd hst.out.below;clear hst hp;go_wp2;go_ret;exact⟨rfl,B.out⟩
open Go.ChangeShapes Go.WideShapes Go.ChangeAt Go.RowKit Go.Shelf
theorem flat_lenI {α β:Type} (f:α→List β) (n:Nat) (hf:∀ a,(f a).length=n) (L:List α):(L.flatMap f).length=L.length*n:=by
 induction L with
 |nil=>simp
 |cons a L ih=>simp only[List.flatMap_cons,List.length_append,hf,ih,List.length_cons];rw[Nat.add_mul];omega
theorem flat_getI {α β:Type} (f:α→List β) (n:Nat) (hf:∀ a,(f a).length=n):∀(L:List α) (k j:Nat) (hk:k<L.length),j<n→(L.flatMap f)[k*n+j]?=(f L[k])[j]?:=by
 intro L
 induction L with
 |nil=>intro k j hk;simp at hk
 | cons a L ih=>
   intro k j hk hj
   cases k with
   |zero=>simp only[List.flatMap_cons,Nat.zero_mul,Nat.zero_add,List.getElem_cons_zero];rw[List.getElem?_append_left (by rw[hf];exact hj)]
   | succ k=>
     simp only[List.flatMap_cons,List.getElem_cons_succ];rw[List.getElem?_append_right (by rw[hf,Nat.add_mul];omega),hf];rw[←ih k j (by simpa using hk) hj]
     congr 1
     rw[Nat.add_mul];omega
section
variable {H:Type} {enc:TypeId×Value→H} {P:Program} {W:World}
def Zq0 (P:Program) (t:TypeId) (k:Nat) (L:List (TypeId×Nat)):Prop:=∃ fs:Array Field,P.underlying t=some (.struct fs)∧P.cellsOf t=k∧fs.toList.map (fun f=>(f.type,f.offset))=L
theorem Vz {t:TypeId} {k n:Nat} {L:List (TypeId×Nat)} {cs:List Value} {x:DataW H×List MemPlace} (hF:Zq0 P t k L) (h:DataW.trod enc P W 0 (fun _=>true) true n t cs=some x):
 cs.length=k∧∃ m,∀(i:Nat) (u:TypeId) (o:Nat),L[i]?=some (u,o)→∃ y,DataW.trod enc P W 0 (fun _=>true) true m u ((cs.drop o).take (P.cellsOf u))=some y:=by
 obtain⟨fs,hu,hk,rfl⟩:=hF;obtain⟨xs,m,_,rfl,hl,hlen,hf⟩:=DataW.trod_struct hu h;refine⟨hl.trans hk,m,fun i u o hi=>?_⟩;rw[List.getElem?_map,Option.map_eq_some_iff] at hi;obtain⟨f,h1,h2⟩:=hi;injection h2 with h2 h3;subst h2 h3;have hi:fs[i]?=some f:=by simpa using h1
 have:=hf i f hi;have hlt:i<xs.length:=by rw[hlen];exact(Array.getElem?_eq_some_iff.1 hi).1
 rw[List.getElem?_eq_getElem hlt] at this;exact⟨_,this⟩
theorem Fq {α:Type} (f:α→List Value) (k:Nat) (hk:0<k) (hf:∀ q,(f q).length=k) {tr tR:TypeId} (hs:P.underlying tR=some (.slice tr)) (hR:P.cellsOf tr=k) (good:α→Prop) (d0:α)
 (hrow:∀ n cs (x:DataW H×List MemPlace),DataW.trod enc P W 0 (fun _=>true) true n tr cs=some x→∃ q,cs=f q∧good q) {n:Nat} {v:Value} {x:DataW H×List MemPlace} (h:DataW.trod enc P W 0 (fun _=>true) true n tR [v]=some x):
 ∃(A:Option Addr) (L:List α) (c:Nat),v=.slice A L.length c∧L.length≤c∧c≤maxLen∧Z9 W (fun _=>True) A (L.flatMap f)∧∀ q∈L,good q:=by
 rcases DataW.trod_slice hs h with⟨hcs,hx⟩|⟨a,len,cap,elems,rest,m,_,hcs,hx,_,hl,hm,hlen,hel,_⟩
 ·simp at hcs
  subst hcs;exact⟨none,[],0,rfl,Nat.le_refl _,by simp[maxLen],.inl rfl,fun _ hy=>absurd hy (List.not_mem_nil)⟩
 ·simp at hcs
  subst hcs;have each:∀ i,i<len→∃ q:α,(∀ j,j<k→W.cell? ((a.add (i*k)).add j)=(f q)[j]?)∧good q:=by intro i hi;have h1:=hel i hi;rw[List.getElem?_eq_getElem (by omega),Option.bind_eq_some_iff,hR] at h1;obtain⟨cs,hcs,ht⟩:=h1;have hc:=(World.cells?_some hcs).2.2;obtain⟨q,rfl,hg⟩:=hrow _ _ _ ht;refine⟨q,fun j hj=>?_,hg⟩;have hj':j<(f q).length :=(by rw[hf];exact hj);rw[hc j hj,List.getElem?_eq_getElem hj']
  obtain⟨g,hg⟩:∃ g:Nat→α,∀ i,i<len→(∀ j,j<k→W.cell? ((a.add (i*k)).add j)=(f (g i))[j]?)∧good (g i):=
   ⟨fun i=>if hi:i<len then (each i hi).choose else d0,fun i hi=>by simp only[hi,dif_pos];exact(each i hi).choose_spec⟩
  refine⟨some a,(List.range len).map g,cap,by simp,by simpa using hl,hm,?_,?_⟩
  ·by_cases hz:len=0
   ·left
    subst hz;rfl
   ·obtain⟨b,off,spot⟩:=a
    have hc0:=(hg 0 (by omega)).1 0 hk;have h0:0<(f (g 0)).length :=(by rw[hf];exact hk);rw[List.getElem?_eq_getElem h0] at hc0;have hspot:spot=none :=(by simpa [Addr.add] using World.cell?_spot hc0);subst hspot;right;refine⟨b,off,rfl,trivial,by simpa [Addr.add] using World.block_lt_of_cell? W _ hc0,fun j hj=>?_⟩;have hln:=flat_lenI f k hf ((List.range len).map g);have hj0:=hj;rw[hln,List.length_map,List.length_range] at hj0;obtain⟨q,i,hi,rfl⟩:∃ q i,i<k∧j=q*k+i:=⟨j / k,j%k,Nat.mod_lt _ hk,by rw[Nat.mul_comm];exact(Nat.div_add_mod j k).symm⟩
    have hq:q<len:=by
     rcases Nat.lt_or_ge q len with h1|h1
     ·exact h1
     ·have:=Nat.mul_le_mul_right k h1
      omega
    have g2:=flat_getI f k hf ((List.range len).map g) q i (by simpa using hq) hi;have hc:=(hg q hq).1 i hi;rw[Addr.add_lit,Addr.add_lit] at hc;rw[List.getElem?_eq_getElem hj] at g2;rw[←Nat.add_assoc,hc,g2];simp
  ·intro q hq
   obtain⟨i,hi,rfl⟩:=List.mem_map.1 hq;exact(hg i (List.mem_range.1 hi)).2
structure Rj (P:Program) (ti tt tb tv tp tS tq tQ tl tL tn tN tx:TypeId):Prop where
 i:P.underlying ti=some (.int .i64)
 t:P.underlying tt=some .string
 b:P.underlying tb=some .bool
 ci:P.cellsOf ti=1
 ct:P.cellsOf tt=1
 cb:P.cellsOf tb=1
 v:Zq0 P tv 3 [(ti,0),(ti,1),(ti,2)]
 cv:P.cellsOf tv=3
 p:Zq0 P tp 2 [(ti,0),(ti,1)]
 cp:P.cellsOf tp=2
 S:P.underlying tS=some (.slice tp)
 cS:P.cellsOf tS=1
 q:Zq0 P tq 2 [(tt,0),(tS,1)]
 cq:P.cellsOf tq=2
 Q:P.underlying tQ=some (.slice tq)
 cQ:P.cellsOf tQ=1
 l:Zq0 P tl 9 [(tt,0),(tv,1),(tQ,4),(tt,5),(tt,6),(tt,7),(tb,8)]
 cl:P.cellsOf tl=9
 L:P.underlying tL=some (.slice tl)
 cL:P.cellsOf tL=1
 N:P.underlying tN=some (.slice tn)
 cN:P.cellsOf tN=1
 x:Zq0 P tx 2 [(tL,0),(tN,1)]
variable {ti tt tb tv tp tS tq tQ tl tL tn tN tx:TypeId} {n:Nat} {cs:List Value} {x:DataW H×List MemPlace}
theorem strI (K:Rj P ti tt tb tv tp tS tq tQ tl tL tn tN tx) {v:Value} (h:DataW.trod enc P W 0 (fun _=>true) true n tt [v]=some x):∃ s:Tm.Qk,v=.string ⟨s.toArray⟩:=by obtain⟨s,hz,_,_⟩:=DataW.trod_string K.t h;simp at hz;subst hz;exact⟨s.data.toList,by simp⟩
theorem intI (K:Rj P ti tt tb tv tp tS tq tQ tl tL tn tN tx) {v:Value} (h:DataW.trod enc P W 0 (fun _=>true) true n ti [v]=some x):∃ z:Int,v=.int .i64 z:=by obtain⟨z,hz,_,_⟩:=DataW.trod_int K.i h;simp at hz;exact⟨z,hz⟩
theorem boolI (K:Rj P ti tt tb tv tp tS tq tQ tl tL tn tN tx) {v:Value} (h:DataW.trod enc P W 0 (fun _=>true) true n tb [v]=some x):∃ z:Bool,v=.bool z:=by obtain⟨z,hz,_⟩:=DataW.trod_bool K.b h;simp at hz;exact⟨z,hz⟩
theorem spanI (K:Rj P ti tt tb tv tp tS tq tQ tl tL tn tN tx) (h:DataW.trod enc P W 0 (fun _=>true) true n tp cs=some x):∃ s:Tm.Sp,cs=G9 s∧True:=by
 obtain⟨hl,m,hf⟩:=Vz K.p h
 match cs,hl with
 |[c0,c1],_ =>obtain⟨y0,h0⟩:=hf 0 _ _ rfl;obtain⟨y1,h1⟩:=hf 1 _ _ rfl;rw[K.ci] at h0 h1;obtain⟨a,rfl⟩:=intI K h0;obtain⟨b,rfl⟩:=intI K h1;exact⟨(a,b),rfl,trivial⟩
theorem setI (K:Rj P ti tt tb tv tp tS tq tQ tl tL tn tN tx) {v:Value} (h:DataW.trod enc P W 0 (fun _=>true) true n tS [v]=some x):∃ s:List Tm.Sp,Qr W (fun _=>True) v s:=by obtain⟨A,L,c,e,h1,h2,h3,-⟩:=Fq G9 2 (by decide) (fun _=>rfl) K.S K.cp (fun _=>True) (0,0) (fun _ _ _=>spanI K) h;exact⟨L,A,c,e,h1,h2,h3⟩
theorem reqI (K:Rj P ti tt tb tv tp tS tq tQ tl tL tn tN tx) (h:DataW.trod enc P W 0 (fun _=>true) true n tq cs=some x):∃ q:We,cs=Mp q∧Qr W (fun _=>True) q.2 q.1.set:=by
 obtain⟨hl,m,hf⟩:=Vz K.q h
 match cs,hl with
 |[c0,c1],_ =>obtain⟨y0,h0⟩:=hf 0 _ _ rfl;obtain⟨y1,h1⟩:=hf 1 _ _ rfl;rw[K.ct] at h0;rw[K.cS] at h1;obtain⟨a,rfl⟩:=strI K h0;obtain⟨s,hs⟩:=setI K h1;exact⟨(⟨a,s⟩,c1),rfl,hs⟩
theorem reqsI (K:Rj P ti tt tb tv tp tS tq tQ tl tL tn tN tx) {v:Value} (h:DataW.trod enc P W 0 (fun _=>true) true n tQ [v]=some x):∃ L:List Tm.Qw,Qt W (fun _=>True) v L:=by obtain⟨A,M,c,e,h1,h2,h3,h4⟩:=Fq Mp 2 (by decide) (fun _=>rfl) K.Q K.cq (fun q=>Qr W (fun _=>True) q.2 q.1.set) (⟨[],[]⟩,.bool true) (fun _ _ _=>reqI K) h;exact⟨M.map Prod.fst,A,c,M,rfl,e,h1,h2,h3,h4⟩
theorem relI (K:Rj P ti tt tb tv tp tS tq tQ tl tL tn tN tx) (h:DataW.trod enc P W 0 (fun _=>true) true n tl cs=some x):∃ r:Qi,cs=Xi r∧Qt W (fun _=>True) r.rv r.reqs:=by
 obtain⟨hl,m,hf⟩:=Vz K.l h
 match cs,hl with
 |[c0,c1,c2,c3,c4,c5,c6,c7,c8],_ =>obtain⟨y0,h0⟩:=hf 0 _ _ rfl;obtain⟨y1,h1⟩:=hf 1 _ _ rfl;obtain⟨y2,h2⟩:=hf 2 _ _ rfl;obtain⟨y3,h3⟩:=hf 3 _ _ rfl;obtain⟨y4,h4⟩:=hf 4 _ _ rfl;obtain⟨y5,h5⟩:=hf 5 _ _ rfl;obtain⟨y6,h6⟩:=hf 6 _ _ rfl;rw[K.ct] at h0 h3 h4 h5;rw[K.cv] at h1;rw[K.cQ] at h2;rw[K.cb] at h6;obtain⟨a,rfl⟩:=strI K h0;obtain⟨hl1,m1,hf1⟩:=Vz K.v h1;obtain⟨z0,g0⟩:=hf1 0 _ _ rfl;obtain⟨z1,g1⟩:=hf1 1 _ _ rfl;obtain⟨z2,g2⟩:=hf1 2 _ _ rfl;rw[K.ci] at g0 g1 g2;obtain⟨j,rfl⟩:=intI K g0;obtain⟨k,rfl⟩:=intI K g1;obtain⟨p,rfl⟩:=intI K g2;obtain⟨s,hs⟩:=reqsI K h2;obtain⟨b,rfl⟩:=strI K h3;obtain⟨c,rfl⟩:=strI K h4;obtain⟨d,rfl⟩:=strI K h5;obtain⟨e,rfl⟩:=boolI K h6;exact⟨⟨a,j,k,p,s,c4,b,c,d,e⟩,rfl,hs⟩
theorem relsI (K:Rj P ti tt tb tv tp tS tq tQ tl tL tn tN tx) {v:Value} (h:DataW.trod enc P W 0 (fun _=>true) true n tL [v]=some x):∃ X:List Qi,Qx W (fun _=>True) v X:=by obtain⟨A,X,c,e,h1,h2,h3,h4⟩:=Fq Xi 9 (by decide) (fun _=>rfl) K.L K.cl (fun r=>Qt W (fun _=>True) r.rv r.reqs) ⟨[],0,0,0,[],.bool true,[],[],[],true⟩ (fun _ _ _=>relI K) h;exact⟨X,A,c,e,h1,h2,h3,h4⟩
theorem open_reqs (K:Rj P ti tt tb tv tp tS tq tQ tl tL tn tN tx) {base:Nat} {v:Value} {d:DataW H} {p:List MemPlace} (hv:Value.okWide P W .any base tQ v) (h:DataW.Trod enc P W 0 (fun _=>true) true tQ v d p):∃ L:List Tm.Qw,Qt W (fun _=>True) v L:=by obtain⟨a0,len,cap,rfl⟩:=okWide_slice K.Q hv;obtain⟨fuel,hf⟩:=h;exact reqsI K hf
theorem open_idx (K:Rj P ti tt tb tv tp tS tq tQ tl tL tn tN tx) {base:Nat} {v:Value} {d:DataW H} {p:List MemPlace} (hv:Value.okWide P W .any base tx v) (h:DataW.Trod enc P W 0 (fun _=>true) true tx v d p):
 ∃(X:List Qi) (u:Value) (iA:Option Addr) (iN iC:Nat),v=.agg #[u,.slice iA iN iC]∧Qx W (fun _=>True) u X:=by
 obtain⟨fs,hu,-,-⟩:=id K.x;obtain⟨cs,rfl,hsz⟩:=okWide_struct hu hv;obtain⟨fuel,hf⟩:=h;obtain⟨hl,m,hf⟩:=Vz K.x hf;obtain⟨cs⟩:=cs;rw[Value.cells] at hl;simp only[Value.cells] at hf
 match cs,hl with
 | [c0,c1],_=>
   obtain⟨y0,h0⟩:=hf 0 _ _ rfl;obtain⟨y1,h1⟩:=hf 1 _ _ rfl;rw[K.cL] at h0;rw[K.cN] at h1;obtain⟨X,hX⟩:=relsI K h0;rcases DataW.trod_slice K.N h1 with⟨hcs,_⟩|⟨a,len,cap,elems,rest,m,_,hcs,_⟩
   ·simp at hcs
    subst hcs;exact⟨X,c0,none,0,0,rfl,hX⟩
   ·simp at hcs
    subst hcs;exact⟨X,c0,some a,len,cap,rfl,hX⟩
end
end Go.Proofs.YtiefajiebebgoaaGreatDoor
