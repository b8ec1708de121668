/- Lemmas and contracts on what the walks need, several small texts in one. Conditions: as each theorem states. -/
import Derived.Test.YtiefajiebebgoaaGreatDoorQHd
import Derived.Test.YtiefajiebebgoaaGreatDoorQUbW
set_option maxRecDepth 20000
set_option maxHeartbeats 8000000
open Go.Proofs.Tryz
namespace Go.Proofs.YtiefajiebebgoaaGreatDoor
set_option linter.unusedVariables false
open Go.RowKit Go.Shelf
attribute [local go_sem] Oper.semAt_some
def Xe (X:List Qi) (c:Qi) (q:Tm.Qw):Bool:=(X++[c]).any fun d=>d.path==q.path&&!Tm.has q.set (Jt d)
def K5 (X:List Qi) (c:Qi) (M:List We):Option Zq:=(Tm.Ql (El (c,M)) 0 M).find? fun x=>Xe X c x.1.q
theorem clash_fst (X:List Qi) (c:Qi) (M:List We) (hM:M.map Prod.fst=c.reqs):(K5 X c M).map Prod.fst=Tm.Yf (X.map Qf) (Qf c):=by
 unfold K5 Tm.Yf;show _=(Tm.Ql _ 0 c.reqs).find? _;rw[←hM,Ui];have h:∀ x:Tm.Zi,(fun n:Tm.Zi=>(X.map Qf++[Qf c]).any fun d=>d.path==n.q.path&&!Tm.has n.q.set d.place) x=Xe X c x.q:=fun x=>by unfold Xe;show (X.map Qf++[Qf c]).any _=_;rw[show X.map Qf++[Qf c]=(X++[c]).map Qf by rw[List.map_append];rfl,List.any_map];rfl
 rw[show (fun n:Tm.Zi=>(X.map Qf++[Qf c]).any fun d=>d.path==n.q.path&&!Tm.has n.q.set d.place)=fun x=>Xe X c x.q from funext h]
 have:∀(L:List We) (i:Nat),((Tm.Ql (El (c,M)) i L).find? fun x=>Xe X c x.1.q).map Prod.fst=(Tm.Ql (fun i (a:We)=>(⟨a.1,(Qf c).path,(Qf c).place,i⟩:Tm.Zi)) i L).find? fun x=>Xe X c x.q:=by
  intro L
  induction L with
  |nil=>intro i;rfl
  | cons a L ih=>
    intro i;show ((El (c,M) i a::Tm.Ql (El (c,M)) (i+1) L).find? _).map _=((⟨a.1,(Qf c).path,(Qf c).place,i⟩:Tm.Zi)::Tm.Ql _ (i+1) L).find? _;rw[List.find?_cons,List.find?_cons];show Option.map Prod.fst (match Xe X c a.1 with|true=>some (El (c,M) i a)|false=>_)=match Xe X c a.1 with|true=>_|false=>_
    cases Xe X c a.1 with
    |true=>rfl
    |false=>exact ih (i+1)
 exact this M 0
theorem bk5 {w:World} {g:Nat} {t:TypeId} {cs:Array Value} (h:Uc w g t cs):(w.cell? ⟨g,0,none⟩=cs[0]?∧w.frozen? ⟨g,0,none⟩=false)∧(w.cell? ⟨g,1,none⟩=cs[1]?∧w.frozen? ⟨g,1,none⟩=false)∧(w.cell? ⟨g,2,none⟩=cs[2]?∧w.frozen? ⟨g,2,none⟩=false)∧(w.cell? ⟨g,3,none⟩=cs[3]?∧w.frozen? ⟨g,3,none⟩=false)∧w.cell? ⟨g,4,none⟩=cs[4]?∧w.frozen? ⟨g,4,none⟩=false:=⟨⟨h.cell 0,h.frozen 0⟩,⟨h.cell 1,h.frozen 1⟩,⟨h.cell 2,h.frozen 2⟩,⟨h.cell 3,h.frozen 3⟩,h.cell 4,h.frozen 4⟩
theorem Fc {α β:Type} (f:Nat→α→β):∀(L:List α) (i k:Nat) (hk:k<L.length),(Tm.Ql f i L).drop k=f (i+k) L[k]::(Tm.Ql f i L).drop (k+1)
 |a::L,i,0,_=>rfl
 |a::L,i,k+1,h=>by have hk:k<L.length :=(by simpa using h);show (Tm.Ql f (i+1) L).drop k=f (i+(k+1)) L[k]::(Tm.Ql f (i+1) L).drop (k+1);rw[Fc f L (i+1) k hk,show i+1+k=i+(k+1) by omega]
theorem clash_spec (X:List Qi) (c:Qi) (M:List We) (Ar:Option Addr) (cr:Nat) (v:Value) (F:Nat→Prop) (g:Nat) (w:World) (hg:w.cell? ⟨g,7,none⟩=some v) (h:Vd w F v X) (hX:∀ r∈X,∃ A n c,r.rv=.slice A n c) (hc:c.rv=.slice Ar M.length cr) (hr:Z9 w F Ar (M.flatMap Mp)) (hset:∀ m∈M,Qr w F m.2 m.1.set) (hl:M.length≤1048576) (hXl:X.length<1048576):
 Calls prog 99 #[.pointer (some ⟨g,0,none⟩),.agg #[.int .i64 (Jt c),.string ⟨c.path.toArray⟩,.int .i64 c.major,.int .i64 c.minor,.int .i64 c.patch,c.rv,.string ⟨c.arch.toArray⟩,.string ⟨c.iface.toArray⟩,.string ⟨c.cert.toArray⟩,.bool c.yank]] w fun e w'=>Below w.heap.size w w'∧e=.returned (match K5 X c M with|none=>.tuple #[.agg #[.string ⟨#[]⟩,.slice none 0 0,.string ⟨#[]⟩,.int .i64 0,.int .i64 0],.bool false]|some x=>.tuple #[M9 x,.bool true]):=by
 obtain⟨res,hres⟩:∃ r,K5 X c M=r:=⟨_,rfl⟩;rw[hres];obtain⟨Ad,cd,rfl,hd1,hd2,hrd⟩:=id h;have hgl:=World.block_lt_of_cell? w _ hg;obtain⟨N,hN⟩:∃ N,X.length=N:=⟨_,rfl⟩;obtain⟨m,hm⟩:∃ m,M.length=m:=⟨_,rfl⟩;have hcl:∀ u∈X.flatMap Gf,u.oneCell'=true:=fun u hu=>by obtain⟨r,hr,hu⟩:=List.mem_flatMap.1 hu;obtain⟨A,n,c,e⟩:=hX r hr;simp[Gf,Xi,e] at hu;rcases hu with rfl|rfl|rfl|rfl|rfl|rfl|rfl|rfl|rfl|rfl<;>rfl
 have kc:∀ W Rs,St w.heap.size w W Rs→Calls prog 100 #[.slice Ad N cd] W fun e w'=>∃ A' c',e=.returned (.slice A' N c')∧St w.heap.size w w' (Ja 10 (.slice A' N c') N (X.flatMap Gf)::Rs):=fun W Rs hW=>by refine(N8 Ad N cd _ _ W (hrd.below hW.below) hcl (by rw[Ge,hN]) (by omega)).mono ?_;rintro e w' ⟨A',c',rfl,y⟩;exact⟨A',c',rfl,(hW.graft y).toQu⟩
 have KC:=Kd kc;rw[hN] at hg;rw[hm] at hc;have hca:Gf c=.int .i64 (Jt c)::.string ⟨c.path.toArray⟩::.int .i64 c.major::.int .i64 c.minor::.int .i64 c.patch::.slice Ar m cr::.string ⟨c.arch.toArray⟩::.string ⟨c.iface.toArray⟩::.string ⟨c.cert.toArray⟩::.bool c.yank::[]:=by unfold Gf Xi;rw[hc]
 rw[hc];have hof:∀(k:Nat) (x:We),M9 (El (c,M) k x)=.agg #[.string ⟨x.1.path.toArray⟩,x.2,.string ⟨c.path.toArray⟩,.int .i64 (Jt c),.int .i64 (k:Int)]:=fun k x=>rfl;generalize Jt c=pl at hca hof ⊢;generalize c.path=pth at hca hof ⊢;generalize c.major=ma at hca ⊢;generalize c.minor=mi at hca ⊢;generalize c.patch=pc at hca ⊢;generalize c.arch=ar at hca ⊢;generalize c.iface=ifc at hca ⊢;generalize c.cert=ce at hca ⊢;generalize c.yank=ya at hca ⊢;obtain⟨W1,hW1⟩:∃ W1,(w.alloc (.cells #[.int .i64 pl,.string ⟨pth.toArray⟩,.int .i64 ma,.int .i64 mi,.int .i64 pc,.slice Ar m cr,.string ⟨ar.toArray⟩,.string ⟨ifc.toArray⟩,.string ⟨ce.toArray⟩,.bool ya] 175)).alloc (.cells #[.string ⟨#[]⟩,.slice none 0 0,.string ⟨#[]⟩,.int .i64 0,.int .i64 0] 182)=W1:=⟨_,rfl⟩;have y0:=((St.nil w).alloc 175 #[.int .i64 pl,.string ⟨pth.toArray⟩,.int .i64 ma,.int .i64 mi,.int .i64 pc,.slice Ar m cr,.string ⟨ar.toArray⟩,.string ⟨ifc.toArray⟩,.string ⟨ce.toArray⟩,.bool ya]).alloc 182 #[.string ⟨#[]⟩,.slice none 0 0,.string ⟨#[]⟩,.int .i64 0,.int .i64 0];rw[hW1,World.size_alloc] at y0;obtain⟨g3,hg3⟩:∃ g,w.heap.size=g:=⟨_,rfl⟩;obtain⟨g4,hg4⟩:∃ g,w.heap.size+1=g:=⟨_,rfl⟩;have HG:=Kd2 hg3 hg4;have y0:St w.heap.size w W1 [Qa g3 175 #[.int .i64 pl,.string ⟨pth.toArray⟩,.int .i64 ma,.int .i64 mi,.int .i64 pc,.slice Ar m cr,.string ⟨ar.toArray⟩,.string ⟨ifc.toArray⟩,.string ⟨ce.toArray⟩,.bool ya],Qa g4 182 #[.string ⟨#[]⟩,.slice none 0 0,.string ⟨#[]⟩,.int .i64 0,.int .i64 0]]:=by rw[←hg3,←hg4];exact y0.pk [1,0]
 have x5:=y0.blk.cell 5;have f0:∀ W',St w.heap.size w W' [Qa g3 175 #[.int .i64 pl,.string ⟨pth.toArray⟩,.int .i64 ma,.int .i64 mi,.int .i64 pc,.slice Ar m cr,.string ⟨ar.toArray⟩,.string ⟨ifc.toArray⟩,.string ⟨ce.toArray⟩,.bool ya]]→W'.cell? ⟨g,7,none⟩=some (.slice Ad N cd)∧W'.cell? ⟨g3,0,none⟩=some (.int .i64 pl)∧W'.cell? ⟨g3,1,none⟩=some (.string ⟨pth.toArray⟩)∧W'.cell? ⟨g3,2,none⟩=some (.int .i64 ma)∧W'.cell? ⟨g3,3,none⟩=some (.int .i64 mi)∧W'.cell? ⟨g3,4,none⟩=some (.int .i64 pc)∧W'.cell? ⟨g3,5,none⟩=some (.slice Ar m cr)∧W'.cell? ⟨g3,6,none⟩=some (.string ⟨ar.toArray⟩)∧W'.cell? ⟨g3,7,none⟩=some (.string ⟨ifc.toArray⟩)∧W'.cell? ⟨g3,8,none⟩=some (.string ⟨ce.toArray⟩)∧W'.cell? ⟨g3,9,none⟩=some (.bool ya):=fun W' hW=>by have hb:=hW.blk;exact⟨(hW.below.cell (p:=⟨g,7,none⟩) hgl).trans hg,hb.cell 0,hb.cell 1,hb.cell 2,hb.cell 3,hb.cell 4,hb.cell 5,hb.cell 6,hb.cell 7,hb.cell 8,hb.cell 9⟩
 have F0:=Kd f0
 have hX:∀ r∈X++[c],∃ A n c,r.rv=.slice A n c:=fun r hr=>by
  rcases List.mem_append.1 hr with hr|hr
  ·exact hX r hr
  ·rw[List.mem_singleton.1 hr]
   exact⟨_,_,_,hc⟩
 have HX:=Kd10 hX hr hset hN hm hca hof hres hl hXl;have Y0:=Kd y0;have hone:∀ u∈([.int .i64 pl,.string ⟨pth.toArray⟩,.int .i64 ma,.int .i64 mi,.int .i64 pc,.slice Ar m cr,.string ⟨ar.toArray⟩,.string ⟨ifc.toArray⟩,.string ⟨ce.toArray⟩,.bool ya]:List Value),u.oneCell'=true:=fun u hu=>by simp at hu;rcases hu with rfl|rfl|rfl|rfl|rfl|rfl|rfl|rfl|rfl|rfl<;>rfl
 have ha1:N+1≤maxLen:=by unfold maxLen;omega
 have ha2:(N+1)*128≤140737488355328:=by omega
 have HA:=Kd3 hone ha1 ha2;have hmm:m≤9223372036854775807:=by omega
 have hNN:N+1≤9223372036854775807:=by omega
 clear kc f0 hX hr hset hN hm hca hof hres hl hXl hone ha1 ha2 y0 h hc hd1 hd2 hrd hcl hg hgl;go_enter func99,ntmps99;go_wp2;rw[show g3+1=g4 by omega];clear hg3 hg4 hW1
 go_loopw [14] (fun i wr=>∃ k:Nat,k≤m∧i=.int .i64 k∧Hid (res=((Tm.Ql (El (c,M)) 0 M).drop k).find? fun x=>Xe X c x.1.q)∧Hid (St w.heap.size w wr [Qa g3 175 #[.int .i64 pl,.string ⟨pth.toArray⟩,.int .i64 ma,.int .i64 mi,.int .i64 pc,.slice Ar m cr,.string ⟨ar.toArray⟩,.string ⟨ifc.toArray⟩,.string ⟨ce.toArray⟩,.bool ya],Qa g4 182 #[.string ⟨#[]⟩,.slice none 0 0,.string ⟨#[]⟩,.int .i64 0,.int .i64 0]])) (fun i _=>m-(intOf i).toNat)
 case atStart=>exact⟨0,Nat.zero_le _,rfl,Kd HX.out.2.2.2.2.2.2.2.1.symm,Y0⟩
 case round=>
  obtain⟨k,hk,rfl,hp,hst⟩:=hrel
  by_cases hlt:k<m
  ·obtain ⟨hX,hr,hset,hN,hm,hca,hof,hres,hl,hXl⟩:=HX.out
   have hkM:k<M.length :=(by omega);obtain⟨b,off,rfl,hbl,q0,q1⟩:=Jk (hr.below hst.out.below) hkM;have hs:=hset _ (List.getElem_mem hkM);have hp:=hp.out;rw[Fc (El (c,M)) M 0 k hkM,List.find?_cons,Nat.zero_add] at hp;have hofk:=hof k M[k];have hcq:Xe X c (El (c,M) k M[k]).1.q=Xe X c M[k].1:=rfl;rw[hcq] at hp;generalize El (c,M) k M[k]=xk at hp hofk;obtain⟨⟨⟨qp,qs⟩,qv⟩,hMk⟩:∃ x,M[k]=x:=⟨_,rfl⟩;rw[hMk] at q0 q1 hs hp hofk;dsimp only at q0 q1 hs hp hofk;obtain⟨As,ns,cs,rfl⟩:=hs.shape;have hcqd:Xe X c ⟨qp,qs⟩=(X++[c]).any fun d=>d.path==qp&&!Tm.has qs (Jt d):=rfl;have i0:(0:Int)≤(k:Int):=Int.natCast_nonneg _;have i1:(k:Int)<(m:Int):=Int.ofNat_lt.2 hlt;have HP:=Kd5 hp hofk hlt hs hcqd;have hrow:X.flatMap Gf++[.int .i64 pl,.string ⟨pth.toArray⟩,.int .i64 ma,.int .i64 mi,.int .i64 pc,.slice (some ⟨b,off,none⟩) m cr,.string ⟨ar.toArray⟩,.string ⟨ifc.toArray⟩,.string ⟨ce.toArray⟩,.bool ya]=(X++[c]).flatMap Gf :=(by rw[List.flatMap_append,List.flatMap_cons,List.flatMap_nil,List.append_nil,hca]);have hXN:(X++[c]).length=N+1 :=(by rw[List.length_append,hN];rfl);have HROW:=Kd3 hrow hXN hX;have y1:=hst.out.alloc 43 #[.string ⟨qp.toArray⟩,.slice As ns cs];obtain⟨g7,hg7⟩:∃ g,wr.heap.size=g:=⟨_,rfl⟩;obtain⟨W1,hW1⟩:∃ W,wr.alloc (.cells #[.string ⟨qp.toArray⟩,.slice As ns cs] 43)=W:=⟨_,rfl⟩;rw[hW1,hg7] at y1;have Y1:=Kd y1;clear hX hr hset hN hm hca hof hres hl hXl hs hp hofk hcq hMk hkM hbl y1 hcqd hrow hXN;go_wp2_with fail;clear hg7 hW1;have hone:=HA.out.1;have ha1:=HA.out.2.1;have ha2:=HA.out.2.2;refine wp_region_noPanic ?_;refine wp_region_held_drew (S:=(fun W'=>W'.cell? ⟨g,7,none⟩=some (.slice Ad N cd)∧W'.cell? ⟨g3,0,none⟩=some (.int .i64 pl)∧W'.cell? ⟨g3,1,none⟩=some (.string ⟨pth.toArray⟩)∧W'.cell? ⟨g3,2,none⟩=some (.int .i64 ma)∧W'.cell? ⟨g3,3,none⟩=some (.int .i64 mi)∧W'.cell? ⟨g3,4,none⟩=some (.int .i64 pc)∧W'.cell? ⟨g3,5,none⟩=some (.slice (some ⟨b,off,none⟩) m cr)∧W'.cell? ⟨g3,6,none⟩=some (.string ⟨ar.toArray⟩)∧W'.cell? ⟨g3,7,none⟩=some (.string ⟨ifc.toArray⟩)∧W'.cell? ⟨g3,8,none⟩=some (.string ⟨ce.toArray⟩)∧W'.cell? ⟨g3,9,none⟩=some (.bool ya))) (by kernel_rfl) ?_ (fun hH0=>?_)
   ·exact F0.out _ (Y1.out.drew.pk [1])
   refine tk 0 19 hH0 ?_;refine tk 1 20 hH0 ?_;refine tk 2 21 hH0 ?_;refine tk 3 22 hH0 ?_;refine tk 5 24 hH0 ?_;refine tk 9 28 hH0 ?_;refine Zk [4,6] ?_;refine ad 23 (fun K hK=>?_) ?_
   go_simp;(
    with_reducible refine(KC.out _ _ Y1.out.drew).mono ?_
    rintro e w2 ⟨A2,c2,rfl,y2⟩);go_wp2_with fail
   refine hK.out _ _ ?_ (fun hH1=>?_)
   ·exact F0.out _ (y2.tail.pk [1])
   clear hK K hH0
   try simp only[pu]
   refine Zk [6] ?_;refine an 25 fun K hK=>?_;go_simp;refine hK.out _ _ ?_ (fun hH2=>?_)
   ·exact F0.out _ ((y2.alloc 175 #[.int .i64 pl,.string ⟨pth.toArray⟩,.int .i64 ma,.int .i64 mi,.int .i64 pc,.slice (some ⟨b,off,none⟩) m cr,.string ⟨ar.toArray⟩,.string ⟨ifc.toArray⟩,.string ⟨ce.toArray⟩,.bool ya]).tail.tail.pk [1])
   clear hK K hH1
   try simp only[pu]
   refine Zk [7] ?_;refine an 26 fun K hK=>?_
   (
    refine Ut 118 ((y2.alloc 175 #[.int .i64 pl,.string ⟨pth.toArray⟩,.int .i64 ma,.int .i64 mi,.int .i64 pc,.slice (some ⟨b,off,none⟩) m cr,.string ⟨ar.toArray⟩,.string ⟨ifc.toArray⟩,.string ⟨ce.toArray⟩,.bool ya]).pk [1,2,3,4,0]) underlying118 Ku rfl (y2.alloc 175 #[.int .i64 pl,.string ⟨pth.toArray⟩,.int .i64 ma,.int .i64 mi,.int .i64 pc,.slice (some ⟨b,off,none⟩) m cr,.string ⟨ar.toArray⟩,.string ⟨ifc.toArray⟩,.string ⟨ce.toArray⟩,.bool ya]).blkRd (by rfl) (by decide) hone ha1 ha2 _ _ (by rfl) (by rfl) (by rfl) (by rfl) ?_;intro A6 c6 w6 y6'
    have y6:=y6'.pk [0,1,2,3])
   refine hK.out _ _ ?_ (fun hH3=>?_)
   ·exact F0.out _ (y6.tail.pk [1])
   clear hK K hH2
   try simp only[pu]
   refine tk 8 27 hH3 ?_;refine dn ?_ _;rotate_left 1;refine an 25 fun K hK=>?_;go_simp;refine hK.out _ _ ?_ (fun hH4=>?_)
   ·exact F0.out _ ((Y1.out.alloc 175 #[.int .i64 pl,.string ⟨pth.toArray⟩,.int .i64 ma,.int .i64 mi,.int .i64 pc,.slice (some ⟨b,off,none⟩) m cr,.string ⟨ar.toArray⟩,.string ⟨ifc.toArray⟩,.string ⟨ce.toArray⟩,.bool ya]).drew.pk [2])
   clear hK K hH0
   try simp only[pu]
   refine Zk [4] ?_;refine an 23 fun K hK=>?_
   go_simp;(
    with_reducible refine(KC.out _ _ (Y1.out.alloc 175 #[.int .i64 pl,.string ⟨pth.toArray⟩,.int .i64 ma,.int .i64 mi,.int .i64 pc,.slice (some ⟨b,off,none⟩) m cr,.string ⟨ar.toArray⟩,.string ⟨ifc.toArray⟩,.string ⟨ce.toArray⟩,.bool ya]).drew).mono ?_
    rintro e w2 ⟨A2,c2,rfl,y2⟩);go_wp2_with fail
   refine hK.out _ _ ?_ (fun hH5=>?_)
   ·exact F0.out _ (y2.tail.tail.pk [1])
   clear hK K hH4
   try simp only[pu]
   refine Zk [7] ?_;refine an 26 fun K hK=>?_
   (
    refine Ut 118 (y2.pk [0,2,3,4,1]) underlying118 Ku rfl y2.tail.blkRd (by rfl) (by decide) hone ha1 ha2 _ _ (by rfl) (by rfl) (by rfl) (by rfl) ?_;intro A6 c6 w6 y6'
    have y6:=y6'.pk [0,1,2,3])
   refine hK.out _ _ ?_ (fun hH6=>?_)
   ·exact F0.out _ (y6.tail.pk [1])
   clear hK K hH5
   try simp only[pu]
   refine tk 8 27 hH6 ?_;refine dn ?_ _
   all_goals(refine NoPanic.normal ?_)
   all_goals(
    rw[HROW.out.1] at y6;have Y6:=Kd y6;clear y6 y6' y2 hone ha1 ha2;go_wp2_with fail
    go_loopw [28] (fun i wi=>∃ j:Nat,j≤N+1∧i=.int .i64 j∧Hid (Xe X c ⟨qp,qs⟩=((X++[c]).drop j).any fun d=>d.path==qp&&!Tm.has qs (Jt d))∧Hid (St w.heap.size w wi [Ja 10 (.slice A6 (N+1) c6) (N+1) ((X++[c]).flatMap Gf),Qa g7 43 #[.string ⟨qp.toArray⟩,.slice As ns cs],Qa g3 175 #[.int .i64 pl,.string ⟨pth.toArray⟩,.int .i64 ma,.int .i64 mi,.int .i64 pc,.slice (some ⟨b,off,none⟩) m cr,.string ⟨ar.toArray⟩,.string ⟨ifc.toArray⟩,.string ⟨ce.toArray⟩,.bool ya],Qa g4 182 #[.string ⟨#[]⟩,.slice none 0 0,.string ⟨#[]⟩,.int .i64 0,.int .i64 0]])) (fun i _=>N+1-(intOf i).toNat)
    case atStart=>exact⟨0,Nat.zero_le _,rfl,Kd HP.out.2.2.2.2,Y6⟩
    case round=>
     obtain⟨j,hj,rfl,hpj,hsj⟩:=hrel
     by_cases hjt:j<N+1
     ·have hjX:j<(X++[c]).length:=by rw[HROW.out.2.1];exact hjt
      have hrd:=hsj.out.quRd (by rw[Ge,HROW.out.2.1]);obtain⟨b6,o6,rfl,hb6,q0',q1',q2',q3',q4',q5',q6',q7',q8',q9'⟩:=Dw hrd hjX;have hpj:=hpj.out;rw[List.drop_eq_getElem_cons hjX,List.any_cons] at hpj;obtain⟨A7,n7,c7,e7⟩:=HROW.out.2.2 _ (List.getElem_mem hjX);generalize (X++[c])[j]=d at q0' q1' q2' q3' q4' q5' q6' q7' q8' q9' hpj e7;rw[e7] at q5';generalize Jt d=pld at q0' hpj;generalize d.path=pd at q1' hpj;generalize d.major=d2 at q2';generalize d.minor=d3 at q3';generalize d.patch=d4 at q4';generalize d.arch=d6 at q6';generalize d.iface=d7 at q7';generalize d.cert=d8 at q8';generalize d.yank=d9 at q9';have y7:=hsj.out.alloc 175 #[.int .i64 pld,.string ⟨pd.toArray⟩,.int .i64 d2,.int .i64 d3,.int .i64 d4,.slice A7 n7 c7,.string ⟨d6.toArray⟩,.string ⟨d7.toArray⟩,.string ⟨d8.toArray⟩,.bool d9];have i2:(0:Int)≤(j:Int):=Int.natCast_nonneg _;have i3:(j:Int)<(N:Int)+1 :=(by omega);obtain⟨g9,hg9⟩:∃ g,wr.heap.size=g:=⟨_,rfl⟩;obtain⟨W7,hW7⟩:∃ W,wr.alloc (.cells #[.int .i64 pld,.string ⟨pd.toArray⟩,.int .i64 d2,.int .i64 d3,.int .i64 d4,.slice A7 n7 c7,.string ⟨d6.toArray⟩,.string ⟨d7.toArray⟩,.string ⟨d8.toArray⟩,.bool d9] 175)=W:=⟨_,rfl⟩;rw[hW7,hg9] at y7;have n0:=y7.blk.cell 0;have n1:=y7.blk.cell 1;have r0:=(y7.pk [2]).blk.cell 0;have r1:=(y7.pk [2]).blk.cell 1;have kh:=Ys qs _ F pld W7 (HP.out.2.2.2.1.below y7.below);have c30:=(y7.pk [3]).blk.cell 0;have c31:=(y7.pk [3]).blk.cell 1;obtain⟨hv,hhv⟩:∃ b,Tm.has qs pld=b:=⟨_,rfl⟩;rw[hhv] at kh hpj;have Y7:=Kd y7;have HJ:=Kd2 hpj hjt;clear hpj hsj hrd hjX hhv y7 hjt hb6 e7;obtain⟨eq7,heq7⟩:∃ b,(pd==qp)=b:=⟨_,rfl⟩
      cases eq7 with
      | false=>
        have HE:=Kd heq7;clear kh;go_wp2
        go_roundw
        case rel=>exact⟨j+1,Nat.succ_le_of_lt HJ.out.2,by go_num,Kd (by rw[HJ.out.1,HE.out];rfl),Kd (Y7.out.pk [1,2,3,4])⟩
        case measure=>have:=HJ.out.2;simp[intOf];omega
      | true=>
        have HE:=Kd heq7;go_wp2_with fail;refine kh.mono ?_;rintro e w8 ⟨rfl,z8⟩;have y8:=Y7.out.under z8
        cases hv with
        | true=>
          have Y8:=Kd y8;clear kh z8 y8;go_wp2
          go_roundw
          case rel=>exact⟨j+1,Nat.succ_le_of_lt HJ.out.2,by go_num,Kd (by rw[HJ.out.1,HE.out];rfl),Kd (Y8.out.pk [1,2,3,4])⟩
          case measure=>have:=HJ.out.2;simp[intOf];omega
        |false =>have hyes:Xe X c ⟨qp,qs⟩=true :=(by rw[HJ.out.1,HE.out];rfl);have hp2:=HP.out.1;rw[hyes] at hp2;dsimp only at hp2;subst hp2;have y84:=(y8.pk [4]);have r0':=(y8.pk [2]).blk.cell 0;have r1':=(y8.pk [2]).blk.cell 1;have c30':=(y8.pk [3]).blk.cell 0;have c31':=(y8.pk [3]).blk.cell 1;obtain⟨⟨v0,z0⟩,⟨v1,z1⟩,⟨v2,z2⟩,⟨v3,z3⟩,v4,z4⟩:=bk5 y84.blk;have Y8:=Kd y84;clear kh z8 y8 y84 hyes;go_wp2;have h4:=(((((Y8.out.set_ 0 (.string ⟨qp.toArray⟩)).set_ 1 (.slice As ns cs)).set_ 2 (.string ⟨pth.toArray⟩)).set_ 3 (.int .i64 pl)).set_ 4 (.int .i64 (k:Int)));simp only[List.setIfInBounds_toArray,List.set_cons_zero,List.set_cons_succ] at h4;refine bodyPost_ret (Jv rfl _ _ g4 _ _ _ _ rfl h4.blk underlying182 rfl (by kernel_rfl)) rfl ?_;refine⟨h4.below,?_⟩;dsimp only;rw[HP.out.2.1];rfl
     ·obtain rfl:j=N+1:=Nat.le_antisymm hj (Nat.le_of_not_lt hjt)
      have hge:decide (((N+1:Nat):Int)<(N:Int)+1)=false :=(by simp);have hno:Xe X c ⟨qp,qs⟩=false :=(by rw[hpj.out,List.drop_eq_nil_of_le (by rw[HROW.out.2.1];exact Nat.le_refl _)];rfl);have hp2:=HP.out.1;rw[hno] at hp2;have H2:=Kd2 hp2 (hsj.out.pk [2,3]);clear hp2 hno hpj hsj;go_wp2
      go_roundw
      case rel=>exact⟨k+1,Nat.succ_le_of_lt HP.out.2.2.1,by go_num,Kd H2.out.1,Kd H2.out.2⟩
      case measure=>have:=HP.out.2.2.1;simp[intOf];omega)
  ·obtain rfl:k=m:=Nat.le_antisymm hk (Nat.le_of_not_lt hlt)
   have hge:decide ((k:Int)<(k:Int))=false :=(by simp);obtain rfl:res=none :=(by rw[hp.out,List.drop_eq_nil_of_le (by rw[Jg];have:=HX.out.2.2.2.2.1;omega)];rfl);have y4:=hst.out.tail;obtain⟨⟨v0,z0⟩,⟨v1,z1⟩,⟨v2,z2⟩,⟨v3,z3⟩,v4,z4⟩:=bk5 y4.blk;have Y4:=Kd y4;clear y4 hst hp;go_wp2;have h4:=(((((Y4.out.set_ 0 (.string ⟨#[]⟩)).set_ 1 (.slice none 0 0)).set_ 2 (.string ⟨#[]⟩)).set_ 3 (.int .i64 0)).set_ 4 (.int .i64 0));simp only[List.setIfInBounds_toArray,List.set_cons_zero,List.set_cons_succ] at h4;refine bodyPost_ret (Jv rfl _ _ g4 _ _ _ _ rfl h4.blk underlying182 rfl (by kernel_rfl)) rfl ?_;exact⟨h4.below,rfl⟩
structure V9 (P:List Tm.Qk) (S S':Tm.Qv):Prop where
 le:S.der.length≤S'.der.length
 len:S'.der.length=S'.infs.length
 ok:Wx P S'
theorem V9.refl {P:List Tm.Qk} {S:Tm.Qv} (hl:S.der.length=S.infs.length) (h:Wx P S):V9 P S S:=⟨Nat.le_refl _,hl,h⟩
theorem V9.trans {P:List Tm.Qk} {S T U:Tm.Qv} (h:V9 P S T) (k:V9 P T U):V9 P S U:=⟨Nat.le_trans h.le k.le,k.len,k.ok⟩
theorem Pt {P:List Tm.Qk} {S:Tm.Qv} (hl:S.der.length=S.infs.length) (h:Wx P S) (i:Tm.D7) {l:List Tm.Qu} (hd:Jb P l):V9 P S (Tm.add S i l).2∧(Tm.add S i l).1<(Tm.add S i l).2.der.length:=by obtain⟨h1,h2,h3⟩:=Mh hl i l;exact⟨⟨h2,h3,h.add i hd⟩,h1⟩
theorem Hv {P:List Tm.Qk} {S:Tm.Qv} (hl:S.der.length=S.infs.length) (h:Wx P S) (n:Tm.Zi) (h1:n.q.path∈P) (h2:¬ n.path=[]→n.path∈P):V9 P S (Tm.infer S n).2∧(Tm.infer S n).1<(Tm.infer S n).2.der.length:=by obtain⟨k1,k2,k3⟩:=C6 hl n;exact⟨⟨k2,k3,h.infer n h1 h2⟩,k1⟩
theorem Uk {P:List Tm.Qk} (path:Tm.Qk):∀(rs:List Nat) (a:Nat) (S:Tm.Qv),S.der.length=S.infs.length→Wx P S→a<S.der.length→(∀ r∈rs,r<S.der.length)→V9 P S (Tm.learnL path rs a S).2∧(Tm.learnL path rs a S).1<(Tm.learnL path rs a S).2.der.length
 |[],a,S,hl,h,ha,_=>⟨V9.refl hl h,ha⟩
 | r :: rs,a,S,hl,h,ha,hr=>by
   rw[Nx]
   split
   ·exact⟨V9.refl hl h,ha⟩
   ·split
    ·exact Uk path rs a S hl h ha fun r hr'=>hr r (List.mem_cons_of_mem _ hr')
    ·cases hres:Tm.Vf (S.der.getD a []) (S.der.getD r []) path with
     |none=>exact Uk path rs a S hl h ha fun r hr'=>hr r (List.mem_cons_of_mem _ hr')
     |some l =>obtain⟨g1,g2⟩:=Pt hl h (3,path,0,0,a,r) ((h.get a).res (h.get r) hres);obtain⟨k1,k2⟩:=Uk path rs _ _ g1.len g1.ok g2 fun r hr'=>Nat.lt_of_lt_of_le (hr r (List.mem_cons_of_mem _ hr')) g1.le;exact⟨g1.trans k1,k2⟩
theorem grown_learn {P:List Tm.Qk} (x:List Tm.Qp) (path:Tm.Qk) (n:Tm.Zi) (rs:List Nat) (S:Tm.Qv) (hl:S.der.length=S.infs.length) (h:Wx P S) (hp:path∈P) (h1:n.q.path∈P) (h2:¬ n.path=[]→n.path∈P) (hr:∀ r∈rs,r<S.der.length):
 V9 P S (Tm.Wq x path n rs S).2∧(Tm.Wq x path n rs S).1<(Tm.Wq x path n rs S).2.der.length:=by
 unfold Tm.Wq;obtain⟨g1,g2⟩:=Hv hl h n h1 h2;obtain⟨k1,k2⟩:=Pt g1.len g1.ok (2,path,0,0,0,0) (Jb.none (s:=Tm.Qy x path) hp)
 obtain⟨m1,m2⟩:=Uk path ((Tm.add (Tm.infer S n).2 (2,path,0,0,0,0) (Tm.Xc path (Tm.Qy x path))).1::rs) (Tm.infer S n).1 _ k1.len k1.ok (Nat.lt_of_lt_of_le g2 k1.le) fun r hr'=>by
  rcases List.mem_cons.1 hr' with rfl|hr'
  ·exact k2
  ·have:=hr r hr'
   have:=g1.le;have:=k1.le;omega
 exact⟨(g1.trans k1).trans m1,m2⟩
theorem hold_eq (t:Tm.Qu):∀ X:List Qi,(∀ r∈X,O1 r)→Di t (X.map Zg)=Tm.Zo t (Tm.J0 (X.map Qf)):=fun X hX=>by
 unfold Di Tm.Zo Tm.J0;rw[List.find?_map,List.find?_map,show ((fun s:Zy=>s.1==t.path) ∘ Zg)=(fun r:Qi=>r.path==t.path) from rfl,show ((fun c:Tm.Qp=>c.path==t.path) ∘ Qf)=(fun r:Qi=>r.path==t.path) from rfl]
 cases h:X.find? (fun r=>r.path==t.path) with
 |none=>rfl
 |some r =>obtain⟨h1,h2,-⟩:=Wk (hX r (List.mem_of_find?_eq_some h));show Tm.has t.set (plS (Zg r))=Tm.mem t.set (Jt r);have e:plS (Zg r)=Jt r:=rfl;unfold Tm.has;rw[e,decide_eq_true h1,decide_eq_true h2];rfl
theorem ent_eq (l:List Tm.Qu) (X:List Qi) (hX:∀ r∈X,O1 r):entS l (X.map Zg)=Tm.Jf (X.map Qf) l:=by
 unfold entS Tm.Jf Rz Tm.Zv
 congr 1
 ·congr 1
  funext t
  exact hold_eq t X hX
 ·congr 1
  funext t
  unfold N6 Tm.done;rw[List.any_map,List.any_map];rfl
theorem entD_eq (D:List (List Tm.Qu)) (X:List Qi) (hX:∀ r∈X,O1 r):entD D (X.map Zg)=Tm.Xk D (X.map Qf):=by
 unfold entD Tm.Xk
 congr 1
 funext l
 exact ent_eq l X hX
def Vb (X:List Qi) (p:Tm.Qk):List Qi:=X.filter fun r=>r.path==p&&!r.yank
theorem Up (X:List Qi) (p:Tm.Qk):(Vb X p).map Qf=Tm.Zp (X.map Qf) p:=by unfold Vb Tm.Zp;rw[List.filter_map];rfl
structure Ok (w0:World) (F:Nat→Prop) (X:List Qi) (roots:List Tm.Qw) (P:List Tm.Qk) (rv:Value) (cb cn:Nat) (MC:Lit→Option Value) (ab an:Nat) (MA:Lit→Option Value):Prop where
 fc:F cb
 mc:Jd w0 9 cb cn MC
 rc:∀ p:Tm.Qk,∃ A c,(MC (.string p)).getD (.slice none 0 0)=.slice A (Vb X p).length c∧(Vb X p).length≤c∧c≤maxLen∧Z9 w0 F A ((Vb X p).flatMap Gf)
 fa:F ab
 ma:Jd w0 9 ab an MA
 ra:∀ p:Tm.Qk,∃ A n c,(MA (.string p)).getD (.slice none 0 0)=.slice A n c∧Qr w0 F (.slice A n c) (Tm.Qy (X.map Qf) p)∧(Tm.Qy (X.map Qf) p).length≤4294967296
 rr:Qt w0 F rv roots
 rq:∀ r∈X,Qt w0 F r.rv r.reqs
 sm:∀ r∈X,K9 r
 sr:∀ q∈roots,Zu q
 ok:∀ r∈X,O1 r
 pk:Iu P
 px:∀ r∈X,r.path∈P∧∀ q∈r.reqs,q.path∈P
 pr:∀ q∈roots,q.path∈P
 lx:X.length≤1048576
 lr:roots.length≤1048576
def Xl (A:Option Addr) (xs:List Value):Q3 where
 P w F:=Z9 w F A xs∧∀ k,F k→k<w.heap.size
 lt h:=h.2
 mod h hm hG:=⟨h.1.keep (Qm.of_mod hm hG),fun k hk=>Nat.lt_of_lt_of_le (h.2 k hk) hm.size⟩
theorem St.ro {lo:Nat} {w0 w:World} {Rs:List Q3} {A:Option Addr} {xs:List Value} (h:St lo w0 w (Xl A xs::Rs)):Z9 w (fun k=>lo≤k) A xs:=by obtain⟨F,h1,h2,_⟩:=h.open;exact h1.1.mono h2
theorem St.newRo {lo:Nat} {w0 w w':World} {Rs:List Q3} {A:Option Addr} {xs:List Value} (h:St lo w0 w Rs) (hb:Below w.heap.size w w') (hs:Z9 w' (fun k=>w.heap.size≤k) A xs):St lo w0 w' (Xl A xs::Rs):=
 h.new (F:=fun k=>w.heap.size≤k∧k<w'.heap.size) hb ⟨hs.ltR,fun k hk=>hk.2⟩ (fun k hk=>hk.1)
theorem St.quRead {lo:Nat} {w0 w:World} {Rs:List Q3} {size n c:Nat} {A:Option Addr} {xs:List Value} (h:St lo w0 w (Ja size (.slice A n c) n xs::Rs)) (hl:xs.length=n*size):St lo w0 w (Xl A xs::Rs):=h.turn fun F hF=>by
 refine⟨?_,hF.2⟩;obtain⟨⟨ao,b,off,cap,e,h4,h5,h6⟩,h3⟩:=hF;obtain⟨rfl,-,rfl⟩:=Value.slice.inj e;rcases Nat.eq_zero_or_pos n with h0|h0
 ·exact .inl (List.eq_nil_of_length_eq_zero (by rw[hl,h0,Nat.zero_mul]))
 ·have hc:0<c:=Nat.lt_of_lt_of_le h0 h5.le
  exact .inr ⟨b,off,h5.addr hc,h6 hc,h5.lt hc,fun j hj=>h5.olds j _ (List.getElem?_eq_getElem hj)⟩
def SkpF (w:World) (F:Nat→Prop) (v:Value):Prop:=∃ A n c xs,v=.slice A n c∧n≤c∧c≤maxLen∧n≤1048576∧xs.length=n*3∧Z9 w F A xs∧∀ u∈xs,u.oneCell'=true
theorem SkpF.keep {w w':World} {F:Nat→Prop} {v:Value} (h:SkpF w F v) (hk:Qm F w w'):SkpF w' F v:=by obtain⟨A,n,c,xs,e,h1,h2,h3,h4,h5,h6⟩:=h;exact⟨A,n,c,xs,e,h1,h2,h3,h4,h5.keep hk,h6⟩
theorem SkpF.mono {w:World} {F G:Nat→Prop} {v:Value} (h:SkpF w F v) (hF:∀ k,F k→G k):SkpF w G v:=by obtain⟨A,n,c,xs,e,h1,h2,h3,h4,h5,h6⟩:=h;exact⟨A,n,c,xs,e,h1,h2,h3,h4,h5.mono hF,h6⟩
def Ak (vs:List Value):Q3 where
 P w F:=(∀ v∈vs,SkpF w F v)∧∀ k,F k→k<w.heap.size
 lt h:=h.2
 mod h hm hG:=⟨fun v hv=>(h.1 v hv).keep (Qm.of_mod hm hG),fun k hk=>Nat.lt_of_lt_of_le (h.2 k hk) hm.size⟩
theorem St.skpNil {lo:Nat} {w0 w:World} {Rs:List Q3} (h:St lo w0 w Rs):St lo w0 w (Ak []::Rs):=
 h.new (F:=fun _=>False) (Below.refl _ w) ⟨fun v hv=>(by cases hv),fun k hk=>hk.elim⟩ (fun k hk=>hk.elim)
theorem St.skpAdd {lo:Nat} {w0 w:World} {Rs:List Q3} {A:Option Addr} {n c:Nat} {xs vs:List Value} (h:St lo w0 w (Xl A xs::Ak vs::Rs)) (h1:n≤c) (h2:c≤maxLen) (h3:n≤1048576) (h4:xs.length=n*3) (h5:∀ u∈xs,u.oneCell'=true):St lo w0 w (Ak (.slice A n c::vs)::Rs):=h.join fun F G hF hG=>by
 refine⟨fun v hv=>?_,fun k hk=>?_⟩
 ·rcases List.mem_cons.1 hv with rfl|hv
  ·exact⟨A,n,c,xs,rfl,h1,h2,h3,h4,hF.1.mono fun k hk=>.inl hk,h5⟩
  ·exact(hG.1 v hv).mono fun k hk=>.inr hk
 ·rcases hk with hk|hk
  ·exact hF.2 k hk
  ·exact hG.2 k hk
theorem decs_of {w:World} {F:Nat→Prop}:∀ D:List Qi,(∀ r∈D,Qt w F r.rv r.reqs)→∃ Ds:List Bj,Ds.map Prod.fst=D∧∀ d∈Ds,d.2.map Prod.fst=d.1.reqs∧(∃ A c,d.1.rv=.slice A d.2.length c∧Z9 w F A (d.2.flatMap Mp))∧∀ m∈d.2,Qr w F m.2 m.1.set
 |[],_=>⟨[],rfl,fun d hd=>by cases hd⟩
 | r::D,h=>by
   obtain⟨Ds,h1,h2⟩:=decs_of D fun s hs=>h s (List.mem_cons_of_mem _ hs);obtain⟨A,c,M,e1,e2,-,-,h3,h4⟩:=h r (List.mem_cons_self ..);refine⟨(r,M)::Ds,by rw[List.map_cons,h1],fun d hd=>?_⟩;rcases List.mem_cons.1 hd with rfl|hd
   ·exact⟨e1,⟨A,c,e2,h3⟩,h4⟩
   ·exact h2 d hd
theorem needsV_len (Mr:List We) (Ds:List Bj) (h:∀ d∈Ds,d.2.length≤1048576):(J9 Mr Ds).length≤Mr.length+Ds.length*1048576:=by
 unfold J9;rw[List.length_append,Jg]
 have:(Ds.flatMap fun d=>Tm.Ql (El d) 0 d.2).length≤Ds.length*1048576:=by
  induction Ds with
  |nil=>exact Nat.le_refl _
  |cons d Ds ih =>rw[List.flatMap_cons,List.length_append,Jg,List.length_cons,Nat.succ_mul];have:=h d (List.mem_cons_self ..);have:=ih fun e he=>h e (List.mem_cons_of_mem _ he);omega
 omega
theorem Ks {α β:Type} (f:Nat→α→β):∀(L:List α) (i:Nat) (x:β),x∈Tm.Ql f i L→∃ k a,a∈L∧k<i+L.length∧x=f k a
 | a::L,i,x,h=>by
   rcases List.mem_cons.1 h with rfl|h
   ·exact⟨i,a,List.mem_cons_self ..,by simp,rfl⟩
   ·obtain⟨k,b,hb,hk,e⟩:=Ks f L (i+1) x h
    exact⟨k,b,List.mem_cons_of_mem _ hb,by rw[List.length_cons];omega,e⟩
structure NdOk (w0:World) (F:Nat→Prop) (P:List Tm.Qk) (x:Zq):Prop where
 set:Qr w0 F x.2 x.1.q.set
 ok:okN x.1
 pq:x.1.q.path∈P
 pp:¬ x.1.path=[]→x.1.path∈P
theorem ofF_ok {w0:World} {F:Nat→Prop} {X:List Qi} {roots:List Tm.Qw} {P:List Tm.Qk} {rv:Value} {cb cn ab an:Nat} {MC MA:Lit→Option Value} (hS:Ok w0 F X roots P rv cb cn MC ab an MA) {d:Bj} (hd:d.1∈X) (h1:d.2.map Prod.fst=d.1.reqs) (h2:∀ m∈d.2,Qr w0 F m.2 m.1.set) {x:Zq} (hx:x∈Tm.Ql (El d) 0 d.2):NdOk w0 F P x:=by
 obtain⟨k,m,hm,hk,rfl⟩:=Ks _ _ _ _ hx;obtain⟨g1,g2,-⟩:=Wk (hS.ok _ hd);obtain⟨s1,s2,s3⟩:=hS.sm _ hd;have hmq:m.1∈d.1.reqs:=by rw[←h1];exact List.mem_map.2 ⟨m,hm,rfl⟩
 have hlen:d.2.length=d.1.reqs.length:=by rw[←h1,List.length_map]
 exact⟨h2 m hm,⟨s2 _ hmq,s3,⟨g1,g2⟩,by show k≤4294967000;omega⟩,(hS.px _ hd).2 _ hmq,fun _=>(hS.px _ hd).1⟩
theorem next_level {w0 w:World} {F:Nat→Prop} {X:List Qi} {roots:List Tm.Qw} {P:List Tm.Qk} {rv:Value} {cb cn ab an:Nat} {MC MA:Lit→Option Value} (hS:Ok w0 F X roots P rv cb cn MC ab an MA) (hk:Qm F w0 w) {G:Nat→Prop} {g:Nat} {v:Value} {D:List Qi} (h0:w.cell? ⟨g,0,none⟩=some rv) (h7:w.cell? ⟨g,7,none⟩=some v) (hv:Vd w G v D) (hD:∀ r∈D,r∈X) (hl:D.length≤1000000):
 Calls prog 93 #[.pointer (some ⟨g,0,none⟩)] w fun e w'=>Below w.heap.size w w'∧∃(A:Option Addr) (c:Nat) (Ms:List Zq) (p:Tm.Qk),e=.returned (.tuple #[.string ⟨p.toArray⟩,.slice A Ms.length c])∧Ms.length≤c∧c≤maxLen∧Z9 w' (fun k=>w.heap.size≤k) A (Ms.flatMap Hn)∧
  (p,Ms.map Prod.fst)=Tm.next roots (D.map Qf)∧(∀ x∈Ms,NdOk w0 F P x∧x.1.q.path=p)∧(Ms≠[]→p∈P∧Tm.done (D.map Qf) p=false):=by
 obtain⟨A,c,Mr,e1,e2,-,-,h3,h4⟩:=id hS.rr;obtain⟨Ds,d1,d2⟩:=decs_of (w:=w0) (F:=F) D fun r hr=>hS.rq r (hD r hr);obtain⟨dA,dC,rfl,v1,v2,v3⟩:=hv;have hmem:∀ d∈Ds,d.1∈X:=fun d hd=>hD _ (by rw[←d1];exact List.mem_map.2 ⟨d,hd,rfl⟩);have hlen:∀ d∈Ds,d.2.length≤1048576:=fun d hd=>by have:=(hS.sm _ (hmem d hd)).1;rw[←(d2 d hd).1,List.length_map] at this;exact this
 have hDl:D.length=Ds.length:=by rw[←d1,List.length_map]
 have hrl:Mr.length≤1048576:=by have:=hS.lr;rw[←e1,List.length_map] at this;exact this
 have hok:∀ x∈J9 Mr Ds,NdOk w0 F P x:=fun x hx=>by
  rcases List.mem_append.1 hx with hx|hx
  ·obtain⟨k,m,hm,hk,rfl⟩:=Ks _ _ _ _ hx
   have hmq:m.1∈roots :=(by rw[←e1];exact List.mem_map.2 ⟨m,hm,rfl⟩);exact⟨h4 m hm,⟨hS.sr _ hmq,Nat.zero_le _,⟨Int.le_refl 0,(by decide:(0:Int)<1000000)⟩,by show k≤4294967000;omega⟩,hS.pr _ hmq,fun h=>absurd rfl h⟩
  ·obtain⟨d,hd,hx⟩:=List.mem_flatMap.1 hx
   exact ofF_ok hS (hmem d hd) (d2 d hd).1 (d2 d hd).2.2 hx
 rw[e2] at h0;rw[hDl] at h7 v1;refine(next_spec w g Mr Ds A c dA dC F ⟨h0,(h3.keep hk).mono fun _ _=>trivial,h7,by rw[d1];exact v3.mono fun _ _=>trivial,fun d hd=>?_,⟨hrl,by omega,hlen⟩,fun m hm=>(h4 m hm).shape,fun d hd m hm=>((d2 d hd).2.2 m hm).shape⟩ v1 v2 (fun x hx=>(hok x hx).set.keep hk) ?_ fun d hd=>(d2 d hd).1).mono ?_
 ·obtain⟨A',c',e,hr⟩:=(d2 d hd).2.1
  exact⟨A',c',e,(hr.keep hk).mono fun _ _=>trivial⟩
 ·have:=needsV_len Mr Ds hlen
  omega
 ·rintro e w' ⟨z,A',c',Ms,p,rfl,hn,g1,g2,g3,g4⟩
  rw[e1,d1] at hn;have hno:=Tm.Yc roots (D.map Qf);rw[←hn] at hno;refine⟨z,A',c',Ms,p,rfl,g1,g2,g3,hn,fun x hx=>⟨hok x (g4 x hx),(hno x.1 (List.mem_map.2 ⟨x,hx,rfl⟩)).2.1⟩,fun hne=>?_⟩;obtain⟨x,hx⟩:=List.exists_mem_of_ne_nil _ hne;obtain⟨-,k2,k3⟩:=hno x.1 (List.mem_map.2 ⟨x,hx,rfl⟩);have k2:x.1.q.path=p:=k2;rw[←k2];exact⟨(hok x (g4 x hx)).pq,k3⟩
def V8 (v:Value) (D:List Qi):Q3 where
 P w F:=Vd w F v D∧∀ k,F k→k<w.heap.size
 lt h:=h.2
 mod h hm hG:=⟨h.1.keep (Qm.of_mod hm hG),fun k hk=>Nat.lt_of_lt_of_le (h.2 k hk) hm.size⟩
theorem Xz.keep' {w w':World} {F:Nat→Prop} {v:Value} {S:List Zy} (h:Xz w F v S) (hk:Qm F w w'):Xz w' F v S:=by obtain⟨A,c,e,h1,h2,h3⟩:=h;exact⟨A,c,e,h1,h2,h3.keep hk⟩
theorem Xz.mono' {w:World} {F G:Nat→Prop} {v:Value} {S:List Zy} (h:Xz w F v S) (hF:∀ k,F k→G k):Xz w G v S:=by obtain⟨A,c,e,h1,h2,h3⟩:=h;exact⟨A,c,e,h1,h2,h3.mono hF⟩
def Xy (v:Value) (S:List Zy):Q3 where
 P w F:=Xz w F v S∧∀ k,F k→k<w.heap.size
 lt h:=h.2
 mod h hm hG:=⟨h.1.keep' (Qm.of_mod hm hG),fun k hk=>Nat.lt_of_lt_of_le (h.2 k hk) hm.size⟩
section
variable {lo:Nat} {w0 w:World} {Rs:List Q3} {A:Option Addr} {n c:Nat}
theorem St.can {v:Value} {D:List Qi} (h:St lo w0 w (V8 v D::Rs)):Vd w (fun k=>lo≤k) v D:=by obtain⟨F,h1,h2,_⟩:=h.open;exact h1.1.mono h2
theorem St.cho {v:Value} {S:List Zy} (h:St lo w0 w (Xy v S::Rs)):Xz w (fun k=>lo≤k) v S:=by obtain⟨F,h1,h2,_⟩:=h.open;exact h1.1.mono' h2
theorem quP_rd {F:Nat→Prop} {size:Nat} {xs:List Value} (h:quP w F size (.slice A n c) n xs) (hl:xs.length=n*size):Z9 w F A xs∧n≤c∧c≤maxLen:=by
 obtain⟨ao,b,off,cap,e,h4,h5,h6⟩:=h;obtain⟨rfl,-,rfl⟩:=Value.slice.inj e;refine⟨?_,h5.le,h4⟩;rcases Nat.eq_zero_or_pos n with h0|h0
 ·exact .inl (List.eq_nil_of_length_eq_zero (by rw[hl,h0,Nat.zero_mul]))
 ·have hc:0<c:=Nat.lt_of_lt_of_le h0 h5.le
  exact .inr ⟨b,off,h5.addr hc,h6 hc,h5.lt hc,fun j hj=>h5.olds j _ (List.getElem?_eq_getElem hj)⟩
theorem St.quCan {D:List Qi} (h:St lo w0 w (Ja 10 (.slice A n c) n (D.flatMap Gf)::Rs)) (hn:n=D.length):St lo w0 w (V8 (.slice A n c) D::Rs):=h.turn fun F hF=>by obtain⟨h1,h2,h3⟩:=quP_rd hF.1 (by rw[Ge,hn]);subst hn;exact⟨⟨A,c,rfl,h2,h3,h1⟩,hF.2⟩
theorem Hl:∀ S:List Zy,(S.flatMap Wm).length=S.length*4
 |[]=>rfl
 |r::X=>by rw[List.flatMap_cons,List.length_append,Hl X,List.length_cons,Nat.succ_mul,Nat.add_comm];rfl
theorem St.quCho {S:List Zy} (h:St lo w0 w (Ja 4 (.slice A n c) n (S.flatMap Wm)::Rs)) (hn:n=S.length):St lo w0 w (Xy (.slice A n c) S::Rs):=h.turn fun F hF=>by obtain⟨h1,h2,h3⟩:=quP_rd hF.1 (by rw[Hl,hn]);subst hn;exact⟨⟨A,c,rfl,h2,h3,h1⟩,hF.2⟩
theorem St.quNil (h:St lo w0 w Rs) (size:Nat) (e:TypeId):St lo w0 w (Ja size (.slice none 0 0) 0 []::Rs):=
 (h.new_own (e:=e) (size:=size) (Below.refl _ w) ⟨by rw[Nat.zero_mul];rfl,.inl ⟨rfl,rfl⟩⟩).toQu
theorem St.srCell {g:Nat} {V:Kc} {M:Lit→Option Value} {S:Tm.Qv} (h:St lo w0 w (Z5 g V M S++Rs)) (i:Nat):w.cell? ⟨g,i,none⟩=(Q5 V S)[i]?∧w.frozen? ⟨g,i,none⟩=false:=
 ⟨(St.blk (g:=g) (t:=121) (cs:=Q5 V S) h).cell i,(St.blk (g:=g) (t:=121) (cs:=Q5 V S) h).frozen i⟩
end
theorem info_skr:(prog.info? 49).map (fun i=>(i.zero,i.size,i.bytes))=some (some (.slice none 0 0),1,24):=by kernel_rfl
theorem Df:(prog.info? 156).map (fun i=>(i.zero,i.size,i.bytes))=some (some (.agg #[.string ⟨#[]⟩,.int .i64 0,.int .i64 0]),3,32):=by kernel_rfl
theorem zero_cands (w:World):(zeroValue 118).run prog w=.ok (.slice none 0 0) w:=by kernel_rfl
structure Kc.Back (V V':Kc):Prop where
 roots:V'.roots=V.roots
 cm:V'.cm=V.cm
 am:V'.am=V.am
 dec:V'.dec=V.dec
 cho:V'.cho=V.cho
theorem Kc.Back.refl (V:Kc):V.Back V:=⟨rfl,rfl,rfl,rfl,rfl⟩
theorem Kc.Back.trans {U V W:Kc} (h:U.Back V) (k:V.Back W):U.Back W:=⟨k.roots.trans h.roots,k.cm.trans h.cm,k.am.trans h.am,k.dec.trans h.dec,k.cho.trans h.cho⟩
theorem Kc.Same.back {V V':Kc} (h:V.Same V'):V.Back V':=⟨h.roots,h.cm,h.am,h.dec,h.cho⟩
def O8 (V:Kc) (D:List Qi) (k:Nat) (vs:List Value) (X:Q3):List Q3:=[V8 V.dec D,Xy V.cho (D.map Zg),Qh 49 1 V.skp k vs,X]
def skN:List Value→Nat
 |[]=>0
 |v::vs=>(match v with|.slice _ n _=>n|_=>0)+skN vs
def SlvP (lo:Nat) (w0:World) (X:List Qi) (P:List Tm.Qk) (g:Nat) (V:Kc) (S:Tm.Qv) (D:List Qi) (k:Nat) (vs:List Value) (R:Q3) (res:Tm.Bg) (e:Ending) (w':World):Prop:=
 match res with
 |(some (d,t),_,S2)=>∃ V' M' D' us,e=.returned (.tuple #[.int .i64 0,.bool true])∧D'.map Qf=d∧(∀ r∈D',r∈X)∧Gg M' S2∧V9 P S S2∧skN us=t.length∧St lo w0 w' (Z5 g V' M' S2++(Ak us::O8 V' D' (k+us.length) (vs++us) R))
 |(none,r,S2)=>∃ V' M',e=.returned (.tuple #[.int .i64 (r:Int),.bool false])∧V.Back V'∧Gg M' S2∧V9 P S S2∧(S2.full=true∨r<S2.der.length)∧St lo w0 w' (Z5 g V' M' S2++O8 V' D k vs R)
theorem Bp (S:List Zy):∀ u∈S.flatMap Wm,u.oneCell'=true:=fun u hu=>by obtain⟨s,-,hu⟩:=List.mem_flatMap.1 hu;simp[Wm] at hu;rcases hu with rfl|rfl|rfl|rfl<;>rfl
section
variable {lo:Nat} {w0 w:World} {L Fr:List Q3}
theorem St.frameIn (h:St lo w0 w (L++Fr)):St lo w0 w (L++[Zm Fr]):=(St.group (Ps:=Fr) (Rs:=L) (h.permR List.perm_append_comm)).permR (List.perm_append_singleton ..).symm
theorem St.frameOut (h:St lo w0 w (L++[Zm Fr])):St lo w0 w (L++Fr):=(St.ungroup (Ps:=Fr) (Rs:=L) (h.permR (List.perm_append_singleton ..))).permR List.perm_append_comm
end
theorem N0 {lo:Nat} {w0 w:World} {Fr:List Q3} (x:Zq) (F:Nat→Prop) (g:Nat) (V:Kc) (M:Lit→Option Value) (S:Tm.Qv) (h:St lo w0 w (Z5 g V M S++Fr)) (hs:Gg M S) (hn:okN x.1) (hset:Qr w F x.2 x.1.q.set):
 Calls prog 97 #[.pointer (some ⟨g,0,none⟩),M9 x] w fun e w'=>∃ V' M',V.Same V'∧Gg M' (Tm.infer S x.1).2∧e=.returned (.int .i64 ((Tm.infer S x.1).1:Int))∧St lo w0 w' (Z5 g V' M' (Tm.infer S x.1).2++Fr):=by
 refine(Hp x.1 x.2 F g V M S h.frameIn hs hn hset).mono ?_;rintro e w' ⟨V',M',h1,h2,h3,h4⟩;exact⟨V',M',h1,h2,h3,h4.frameOut⟩
def SlvK (lo:Nat) (w0 wS:World) (F:Nat→Prop) (X:List Qi) (roots:List Tm.Qw) (P:List Tm.Qk) (rv:Value) (cb ab g:Nat) (f:Nat):Prop:=
 ∀ (w:World) (V:Kc) (M:Lit→Option Value) (S:Tm.Qv) (D:List Qi) (k:Nat) (vs:List Value) (R:Q3),St lo w0 w (Z5 g V M S++O8 V D k vs R)→Nj lo w0 wS F R→Gg M S→Wx P S→V.roots=rv→V.cm=.map (some cb)→V.am=.map (some ab)→(∀ r∈D,r∈X)→Tm.Xb (X.map Qf) (D.map Qf)<f→D.length+f≤1000000→k+f≤1000000→
   Calls prog 57 #[.pointer (some ⟨g,0,none⟩)] w (SlvP lo w0 X P g V S D k vs R (Tm.Za (X.map Qf) roots f S (D.map Qf)))
theorem Sn {P:Program} {c:Code} {Q:Exit→Act→World→Prop} {a:Act} {w:World} {α β γ δ ε:Type} (S:α→β→γ→δ→ε→World→Prop) {F:α→β→γ→δ→ε→Act}
 (h:c.wp P (fun e a' w'=>e=Exit.normal∧∃ x1 x2 x3 x4 x5,a'=F x1 x2 x3 x4 x5∧S x1 x2 x3 x4 x5 w') a w) (k:∀ x1 x2 x3 x4 x5 w',S x1 x2 x3 x4 x5 w'→Q Exit.normal (F x1 x2 x3 x4 x5) w'):c.wp P Q a w:=
 Code.wp_mono (fun e a w hr=>by obtain⟨rfl,x1,x2,x3,x4,x5,rfl,hs⟩:=hr;exact k _ _ _ _ _ _ hs) h
theorem Nu {P:Program} {c:Code} {Q:Exit→Act→World→Prop} {a:Act} {w:World} (S:World→Prop) {F:Act}
 (h:c.wp P (fun e a' w'=>e=Exit.normal∧a'=F∧S w') a w) (k:∀ w',S w'→Q Exit.normal F w'):c.wp P Q a w:=
 Code.wp_mono (fun e a w hr=>by obtain⟨rfl,rfl,hs⟩:=hr;exact k _ hs) h
theorem St.derRd {lo:Nat} {w0 w:World} {g:Nat} {V:Kc} {M:Lit→Option Value} {S:Tm.Qv} {Fr:List Q3} (h:St lo w0 w (Z5 g V M S++Fr)) (hs:Gg M S):DerRd w (fun k=>lo≤k) V.dA S.der:=fun k hk=>by obtain⟨db,A,n,c,e1,h1,h2,h3⟩:=h.frameIn.derAt hs hk;exact⟨db,A,n,c,e1,h1,h2,h3⟩
theorem St.cell4 {lo:Nat} {w0 w:World} {g:Nat} {V:Kc} {M:Lit→Option Value} {S:Tm.Qv} {Fr:List Q3} (h:St lo w0 w (Z5 g V M S++Fr)) (hs:Gg M S):w.cell? ⟨g,4,none⟩=some (.slice V.dA S.der.length V.dC):=by rw[hs.len];exact(h.srCell 4).1
theorem bk10 {w:World} {g:Nat} {t:TypeId} {cs:Array Value} (h:Uc w g t cs):w.cell? ⟨g,0,none⟩=cs[0]?∧w.cell? ⟨g,1,none⟩=cs[1]?∧w.cell? ⟨g,2,none⟩=cs[2]?∧w.cell? ⟨g,3,none⟩=cs[3]?∧w.cell? ⟨g,4,none⟩=cs[4]?∧w.cell? ⟨g,5,none⟩=cs[5]?∧w.cell? ⟨g,6,none⟩=cs[6]?∧w.cell? ⟨g,7,none⟩=cs[7]?∧w.cell? ⟨g,8,none⟩=cs[8]?∧w.cell? ⟨g,9,none⟩=cs[9]?:=⟨h.cell 0,h.cell 1,h.cell 2,h.cell 3,h.cell 4,h.cell 5,h.cell 6,h.cell 7,h.cell 8,h.cell 9⟩
theorem ent_lt {der:List (List Tm.Qu)} {w:List Tm.Qp} {r:Nat} (h:Tm.Xk der w=some r):r<der.length:=by unfold Tm.Xk at h;obtain⟨h1,-⟩:=List.findIdx?_eq_some_iff_getElem.1 h;exact h1
theorem caC_one {D:List Qi} (h:∀ r∈D,∃ A n c,r.rv=.slice A n c):∀ u∈D.flatMap Gf,u.oneCell'=true:=fun u hu=>by obtain⟨r,hr,hu⟩:=List.mem_flatMap.1 hu;obtain⟨A,n,c,e⟩:=h r hr;simp[Gf,Xi,e] at hu;rcases hu with rfl|rfl|rfl|rfl|rfl|rfl|rfl|rfl|rfl|rfl<;>rfl
theorem Sc (V:Kc) (S:Tm.Qv) (a b:Value):((Q5 V S).setIfInBounds 7 a).setIfInBounds 8 b=Q5 { V with dec:=a,cho:=b } S:=by unfold Q5;simp only[List.setIfInBounds_toArray,List.set_cons_zero,List.set_cons_succ]
theorem Lu (V:Kc) (S:Tm.Qv) (a:Value):(Q5 V S).setIfInBounds 9 a=Q5 { V with skp:=a } S:=by unfold Q5;simp only[List.setIfInBounds_toArray,List.set_cons_zero,List.set_cons_succ]
theorem own_take {w:World} {base:Nat} {e:TypeId} {A:Option Addr} {n c:Nat} {xs:List Value} (h:w.ownsRow base e 1 (.slice A n c) n xs) (m:Nat) (hm:m≤n):w.ownsRow base e 1 (.slice A m c) m (xs.take m):=by
 obtain⟨h1,h2⟩:=h;refine⟨by rw[List.length_take,h1];omega,?_⟩;rcases h2 with⟨h2,h3⟩|⟨g,cap,cur,hv,hb,hg,hn,hc,hs,ht⟩
 ·injection h2 with a b d
  exact .inl ⟨by rw[a,d,show m=0 by omega],by omega⟩
 ·injection hv with a b d
  subst a d;refine .inr ⟨g,c,cur,rfl,hb,hg,by omega,hc,hs,?_⟩;rw[←ht,List.take_take,Nat.mul_one,Nat.mul_one]
  congr 1
  omega
theorem St.shrink {lo:Nat} {w0 w:World} {Rs:List Q3} {e:TypeId} {A:Option Addr} {n c:Nat} {xs:List Value} (h:St lo w0 w (Qh e 1 (.slice A n c) n xs::Rs)) (m:Nat) (hm:m≤n):St lo w0 w (Qh e 1 (.slice A m c) m (xs.take m)::Rs):=by refine h.turn (fun F hF=>⟨own_take hF.1 m hm,?_,hF.2.2⟩);intro k hk;exact hF.2.1 k (by cases A<;>exact hk)
end Go.Proofs.YtiefajiebebgoaaGreatDoor
