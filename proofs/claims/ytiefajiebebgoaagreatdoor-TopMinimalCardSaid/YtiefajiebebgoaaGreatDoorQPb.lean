/- Lemmas and contracts on what the walks need, several small texts in one. Conditions: as each theorem states. -/
import Derived.Test.YtiefajiebebgoaaGreatDoorQHd
import Derived.Test.YtiefajiebebgoaaGreatDoorQTpIx
import Derived.Test.YtiefajiebebgoaaGreatDoorQPa
import Derived.Lib.Strings
import Derived.Lib.Walk
import Derived.Shelf.SlGeneric
import Derived.Shelf.SlSortCmp.WholeK
import Derived.Ground.SlsfProg
import Derived.Ground.NamesProg
import Derived.Shelf.Small.Bits
import Derived.Test.YtiefajiebebgoaaGreatDoorProg
import Derived.Test.YtiefajiebebgoaaGreatDoorRows
import Derived.ProofKit
import Derived.OpenShut
import Derived.JoinedCond
import Derived.ShutString
import Derived.ChangeOld
set_option maxRecDepth 20000
set_option maxHeartbeats 8000000
open Go.Proofs.Tryz
namespace Go.Proofs.YtiefajiebebgoaaGreatDoor
set_option linter.unusedVariables false
open Go.RowKit Go.Shelf
attribute [local go_sem] Oper.semAt_some
def Z9 (w:World) (F:Nat→Prop) (A:Option Addr) (xs:List Value):Prop:=
 xs=[]∨∃ b off,A=some ⟨b,off,none⟩∧F b∧b<w.heap.size∧∀ j (hj:j<xs.length),w.cell? ⟨b,off+j,none⟩=some xs[j]
theorem b1 (w:World) (o:Obj):Below w.heap.size w (w.alloc o):=(Below.refl _ w).alloc (Nat.le_refl _) o
def Qm (F:Nat→Prop) (w w':World):Prop:=∀ k,F k→k<w.heap.size→k<w'.heap.size∧w'.heap[k]?=w.heap[k]?
theorem Qm.of_below {F:Nat→Prop} {w w':World} (h:Below w.heap.size w w'):Qm F w w':=fun k _ hl=>⟨Nat.lt_of_lt_of_le hl h.size,h.block k hl⟩
theorem Qm.of_mod {F G:Nat→Prop} {w w':World} (h:U9 G w w') (hd:∀ k,F k→¬ G k):Qm F w w':=fun k hk hl=>⟨Nat.lt_of_lt_of_le hl h.size,h.block k hl (hd k hk)⟩
theorem Qm.under {F:Nat→Prop} {B:Nat} {w w':World} (h:Below B w w') (hF:∀ k,F k→k<B):Qm F w w':=fun k hk hl=>⟨Nat.lt_of_lt_of_le hl h.size,h.block k (hF k hk)⟩
section
variable {w w':World} {F G:Nat→Prop} {A:Option Addr} {xs:List Value}
theorem Z9.nil (w:World) (F:Nat→Prop) (A:Option Addr):Z9 w F A []:=.inl rfl
theorem Z9.keep (h:Z9 w F A xs) (hk:Qm F w w'):Z9 w' F A xs:=by
 rcases h with h|⟨b,off,e,h1,h2,h3⟩
 ·exact .inl h
 ·obtain⟨k1,k2⟩:=hk b h1 h2
  exact .inr ⟨b,off,e,h1,k1,fun j hj=>(World.cell?_of_block (a:=⟨b,off+j,none⟩) k2).trans (h3 j hj)⟩
theorem Z9.mono (h:Z9 w F A xs) (hF:∀ k,F k→G k):Z9 w G A xs:=by
 rcases h with h|⟨b,off,e,h1,h2⟩
 ·exact .inl h
 ·exact .inr ⟨b,off,e,hF b h1,h2⟩
theorem Z9.below (h:Z9 w F A xs) (hb:Below w.heap.size w w'):Z9 w' F A xs:=h.keep (Qm.of_below hb)
theorem Z9.get {α:Type} {L:List α} {f:α→List Value} {k:Nat} (hf:∀ x,(f x).length=k) (h:Z9 w F A (L.flatMap f)) {j:Nat} (hj:j<L.length) (hk:0<k):
 ∃ b off,A=some ⟨b,off,none⟩∧F b∧b<w.heap.size∧∀ i u,(f L[j])[i]?=some u→w.cell? ⟨b,off+j*k+i,none⟩=some u:=by
 have hl:(L.flatMap f).length=L.length*k:=by
  rw[List.length_flatMap]
  induction L with
  |nil=>simp
  | cons a L ih=>
    clear h hj
    have:∀ M:List α,(M.map fun a=>(f a).length).sum=M.length*k:=by
     intro M
     induction M with
     |nil=>simp
     |cons b M ih2=>rw[List.map_cons,List.sum_cons,ih2,hf,List.length_cons,Nat.succ_mul,Nat.add_comm]
    exact this _
 have hg:∀(M:List α) (j:Nat) (hj:j<M.length) (i:Nat) (u:Value),(f M[j])[i]?=some u→(M.flatMap f)[j*k+i]?=some u:=by
  intro M
  induction M with
  |nil=>intro j hj;cases hj
  | cons a M ih=>
    intro j hj i u hu;rw[List.flatMap_cons]
    cases j with
    |zero =>have hu:(f a)[i]?=some u:=hu;have hi:=(List.getElem?_eq_some_iff.1 hu).1;rw[Nat.zero_mul,Nat.zero_add,List.getElem?_append_left hi];exact hu
    |succ j =>rw[List.getElem?_append_right (by rw[hf,Nat.succ_mul];omega),hf,show (j+1)*k+i-k=j*k+i by rw[Nat.succ_mul];omega];exact ih j (by simpa using hj) i u (by simpa using hu)
 rcases h with h|⟨b,off,e,h1,h2,h3⟩
 ·rw[h] at hl
  have:0<L.length*k:=Nat.mul_pos (by omega) hk;simp at hl;omega
 ·refine⟨b,off,e,h1,h2,fun i u hu=>?_⟩
  obtain⟨hlt,he⟩:=List.getElem?_eq_some_iff.1 (hg L j hj i u hu);rw[Nat.add_assoc,h3 _ hlt,he]
end
def G9 (x:Tm.Sp):List Value:=[.int .i64 x.1,.int .i64 x.2]
def Qr (w:World) (F:Nat→Prop) (v:Value) (s:List Tm.Sp):Prop:=∃ A c,v=.slice A s.length c∧s.length≤c∧c≤maxLen∧Z9 w F A (s.flatMap G9)
section
variable {w w':World} {F G:Nat→Prop} {v:Value} {s:List Tm.Sp}
theorem Qr.keep (h:Qr w F v s) (hk:Qm F w w'):Qr w' F v s:=by obtain⟨A,c,e,h1,h2,h3⟩:=h;exact⟨A,c,e,h1,h2,h3.keep hk⟩
theorem Qr.below (h:Qr w F v s) (hb:Below w.heap.size w w'):Qr w' F v s:=h.keep (Qm.of_below hb)
theorem Qr.mono (h:Qr w F v s) (hF:∀ k,F k→G k):Qr w G v s:=by obtain⟨A,c,e,h1,h2,h3⟩:=h;exact⟨A,c,e,h1,h2,h3.mono hF⟩
end
theorem has1_spec (x:Tm.Sp) (p:Int) (g:Nat) (w:World) (hg:w.cell? ⟨g,0,none⟩=some (.int .i64 p)):
 Calls prog 146 #[.agg #[.int .i64 x.1,.int .i64 x.2],.pointer (some ⟨g,0,none⟩)] w fun e w'=>e=.returned (.bool (decide (x.1≤p)&&decide (p<x.2)))∧Below w.heap.size w w':=by
 obtain⟨a,b⟩:=x;have hl:=World.block_lt_of_cell? w _ hg;dsimp only at hl ⊢
 by_cases h1:a≤p
 ·go_enter func146,ntmps146
  go_wp2;go_ret;exact⟨by simp[h1],b1 w _⟩
 ·go_enter func146,ntmps146
  go_wp2;go_ret;exact⟨by rw[decide_eq_false (by omega:¬ a≤p)];rfl,b1 w _⟩
theorem Z9.spans {w:World} {F:Nat→Prop} {A:Option Addr} {s:List Tm.Sp} (h:Z9 w F A (s.flatMap G9)):∀ j,j<s.length→∃ b off,A=some ⟨b,off,none⟩∧b<w.heap.size∧
 w.cell? ⟨b,off+j*2,none⟩=some (.int .i64 (s.getD j (0,0)).1)∧w.cell? ⟨b,off+j*2+1,none⟩=some (.int .i64 (s.getD j (0,0)).2):=fun j hj=>by
 obtain⟨b,off,e,_,h1,h2⟩:=h.get (fun _=>rfl) hj (k:=2) (by decide);rw[List.getD_eq_getElem?_getD,List.getElem?_eq_getElem hj,Option.getD_some];exact⟨b,off,e,h1,h2 0 _ rfl,h2 1 _ rfl⟩
theorem Ys (s:List Tm.Sp) (v:Value) (F:Nat→Prop) (p:Int) (w:World) (h:Qr w F v s):
 Calls prog 96 #[v,.int .i64 p] w fun e w'=>e=.returned (.bool (Tm.has s p))∧Below w.heap.size w w':=by
 obtain⟨A,c,rfl,h1,h2,h3⟩:=h
 have k:=cfSp_spec 146 #[.pointer (some ⟨w.heap.size,0,none⟩)] (enters_of func146 (by kernel_rfl) rfl) A s.length c (fun j=>.int .i64 (s.getD j (0,0)).1) (fun j=>.int .i64 (s.getD j (0,0)).2)
  (fun j=>decide ((s.getD j (0,0)).1≤p)&&decide (p<(s.getD j (0,0)).2)) (w.alloc (.cells #[.int .i64 p] 3)) (Nat.le_trans h1 h2) (h3.below (b1 w _)).spans
  (fun j W _ hb=>has1_spec (s.getD j (0,0)) p w.heap.size W ((hb.cell (by simp)).trans (one_new w _ _)))
 have hm:∀ b,Hh (fun j=>decide ((s.getD j (0,0)).1≤p)&&decide (p<(s.getD j (0,0)).2)) s.length b→b=Tm.mem s p:=fun b hb=>hb.list (q:=fun (x:Tm.Sp)=>decide (x.1≤p)&&decide (p<x.2)) (fun j hj=>by
  rw[List.getD_eq_getElem?_getD,List.getElem?_eq_getElem hj,Option.getD_some])
 have HM:=Kd hm;clear h3 hm
 by_cases p0:0≤p
 ·by_cases p1:p<1000000
  ·have hr:Tm.has s p=Tm.mem s p:=by
    unfold Tm.has;rw[decide_eq_true p0,decide_eq_true p1];rfl
   rw[hr];go_enter func96,ntmps96;go_wp2_with fail;refine k.mono ?_;rintro e w' ⟨b,rfl,k1,k2⟩;have K1:=Kd ((b1 w _).trans (k1.mono (by simp)));have e1:=HM.out b k2;subst e1;clear k k1 k2;go_wp2;go_ret;exact⟨rfl,K1.out⟩
  ·clear k
   have hr:Tm.has s p=false :=(by unfold Tm.has;rw[decide_eq_false p1,Bool.false_and,Bool.and_false]);rw[hr];go_enter func96,ntmps96;go_wp2;go_ret;exact⟨rfl,b1 w _⟩
 ·clear k
  have hr:Tm.has s p=false:=by unfold Tm.has;rw[decide_eq_false p0];rfl
  rw[hr];go_enter func96,ntmps96;go_wp2;go_ret;exact⟨rfl,b1 w _⟩
theorem size_arr3:(prog.info? 215).map (·.size)=some 3:=by kernel_rfl
theorem new2 (w:World) (o:Obj) (t:TypeId) (cs:Array Value):((w.alloc o).alloc (.cells cs t)).heap[w.heap.size+1]?=some (.cells cs t (0,0)):=by
 have:=Uc.new (w.alloc o) t cs;unfold Uc at this
 rwa [show (w.alloc o).heap.size=w.heap.size+1 by simp] at this
theorem Fv (a b c:Int) (w:World):Calls prog 121 #[.agg #[.int .i64 a,.int .i64 b,.int .i64 c]] w fun e w'=>e=.returned (.agg #[.int .i64 a,.int .i64 b,.int .i64 c])∧Below w.heap.size w w':=by
 go_enter func121,ntmps121;go_wp2
 try simp only[Exit.inBlock,Exit.then]
 refine bodyPost_ret (results_cell_row rfl _ _ _ _ #[.int .i64 a,.int .i64 b,.int .i64 c] _ _ rfl (new2 w _ _ _) underlying215 rfl size_arr3) rfl ?_;exact⟨rfl,(b1 w _).alloc (by simp) _⟩
theorem ix_arr (a b c:Int) (W:World):(Instr.index 215 (.agg #[.int .i64 a,.int .i64 b,.int .i64 c]) (.int .i64 0)).run prog W=.ok (.int .i64 a) W∧(Instr.index 215 (.agg #[.int .i64 a,.int .i64 b,.int .i64 c]) (.int .i64 1)).run prog W=.ok (.int .i64 b) W∧
 (Instr.index 215 (.agg #[.int .i64 a,.int .i64 b,.int .i64 c]) (.int .i64 2)).run prog W=.ok (.int .i64 c) W:=⟨by kernel_rfl,by kernel_rfl,by kernel_rfl⟩
def okP (a:Int):Bool:=!(decide (a<0)||decide (999<a))
def Mq (a b c:Int):Bool:=okP a&&(okP b&&okP c)
theorem X7 {a:Int} (h:okP a=true):0≤a∧a≤999:=by unfold okP at h;simp at h;omega
theorem Ek {a:Int} (h:okP a=false):a<0∨(0≤a∧999<a):=by unfold okP at h;simp at h;omega
def VPk (a b c:Int) (k:Nat):Prop:=(0<k→okP a=true)∧(1<k→okP b=true)∧(2<k→okP c=true)
theorem Kg (a b c:Int) (w:World):Calls prog 71 #[.agg #[.int .i64 a,.int .i64 b,.int .i64 c]] w fun e w'=>e=.returned (.bool (Mq a b c))∧Below w.heap.size w w':=by
 have kp:=fun W=>Fv a b c W;obtain⟨r,hr⟩:∃ r,Mq a b c=r:=⟨_,rfl⟩;rw[hr];have HR:=Kd hr;clear hr;go_enter func71,ntmps71;go_wp2_with fail;refine(kp _).mono ?_;rintro e w1 ⟨rfl,v1⟩;have V1:=Kd ((b1 w _).trans (v1.mono (by simp)));clear v1 kp;go_wp2
 go_loopw [7] (fun i wr=>∃(k:Nat),k≤3∧i=.int .i64 k∧Hid (Below w.heap.size w wr)∧VPk a b c k) (fun i _=>3-(intOf i).toNat)
 case atStart=>exact⟨0,by omega,rfl,V1,⟨fun h=>absurd h (by omega),fun h=>absurd h (by omega),fun h=>absurd h (by omega)⟩⟩
 case round=>
  obtain⟨k,hk,rfl,V1,hp⟩:=hrel;obtain⟨x0,x1,x2⟩:=ix_arr a b c wr
  match k,hk with
  | 0, _=>
    cases hx:okP a with
    | true=>
      have h1:=X7 hx;have HX:=Kd hx;clear hx;go_wp2
      go_roundw
      case rel=>exact⟨1,by omega,rfl,V1,⟨fun _=>HX.out,fun h=>absurd h (by omega),fun h=>absurd h (by omega)⟩⟩
      case measure=>simp[intOf]
    | false=>
      have hr:=HR.out;unfold Mq at hr;rw[hx,Bool.false_and] at hr;subst hr;rcases Ek hx with h1|h1
      ·clear hx
       go_wp2;go_ret;exact⟨rfl,V1.out⟩
      ·clear hx
       obtain⟨h1,h2⟩:=h1;go_wp2;go_ret;exact⟨rfl,V1.out⟩
  | 1, _=>
    have ha:=hp.1 (by omega)
    cases hx:okP b with
    | true=>
      have h1:=X7 hx;have HX:=Kd hx;have HA:=Kd ha;clear hx ha;go_wp2
      go_roundw
      case rel=>exact⟨2,by omega,rfl,V1,⟨fun _=>HA.out,fun _=>HX.out,fun h=>absurd h (by omega)⟩⟩
      case measure=>simp[intOf]
    | false=>
      have hr:=HR.out;unfold Mq at hr;rw[hx,Bool.false_and,Bool.and_false] at hr;subst hr;clear ha;rcases Ek hx with h1|h1
      ·clear hx
       go_wp2;go_ret;exact⟨rfl,V1.out⟩
      ·clear hx
       obtain⟨h1,h2⟩:=h1;go_wp2;go_ret;exact⟨rfl,V1.out⟩
  | 2, _=>
    have ha:=hp.1 (by omega);have hb:=hp.2.1 (by omega)
    cases hx:okP c with
    | true=>
      have h1:=X7 hx;have HX:=Kd3 ha hb hx;clear hx ha hb;go_wp2
      go_roundw
      case rel=>exact⟨3,by omega,rfl,V1,⟨fun _=>HX.out.1,fun _=>HX.out.2.1,fun _=>HX.out.2.2⟩⟩
      case measure=>simp[intOf]
    | false=>
      have hr:=HR.out;unfold Mq at hr;rw[hx,Bool.and_false,Bool.and_false] at hr;subst hr;clear ha hb;rcases Ek hx with h1|h1
      ·clear hx
       go_wp2;go_ret;exact⟨rfl,V1.out⟩
      ·clear hx
       obtain⟨h1,h2⟩:=h1;go_wp2;go_ret;exact⟨rfl,V1.out⟩
  |3,_ =>have hr:=HR.out;unfold Mq at hr;rw[hp.1 (by omega),hp.2.1 (by omega),hp.2.2 (by omega)] at hr;have hr:true=r:=hr;subst hr;go_wp2;go_ret;exact⟨rfl,V1.out⟩
  |k+4,hk=>omega
theorem Z6 (a b c:Int) (w:World) (h:Mq a b c=true):Calls prog 91 #[.agg #[.int .i64 a,.int .i64 b,.int .i64 c]] w fun e w'=>e=.returned (.tuple #[.int .i64 (1000*b+c),.int .i64 0])∧Below w.heap.size w w':=by
 have kp:=fun W=>Kg a b c W;rw[h] at kp;have h2:0≤b∧b≤999∧0≤c∧c≤999:=by unfold Mq at h;rw[Bool.and_eq_true,Bool.and_eq_true] at h;have x1:=X7 h.2.1;have x2:=X7 h.2.2;omega
 obtain⟨h3,h4,h5,h6⟩:=h2;clear h;go_enter func91,ntmps91;go_wp2_with fail;refine(kp _).mono ?_;rintro e w1 ⟨rfl,v1⟩;have V1:=Kd ((b1 w _).trans (v1.mono (by simp)));have bk:=(Uc.new w 36 #[.int .i64 a,.int .i64 b,.int .i64 c]).below v1;have q1:=bk.cell 1;have q2:=bk.cell 2;clear v1 kp bk;go_wp2;go_ret2;exact⟨rfl,V1.out⟩
abbrev We:=Tm.Qw×Value
def Mp (x:We):List Value:=[.string ⟨x.1.path.toArray⟩,x.2]
def Qt (w:World) (F:Nat→Prop) (v:Value) (L:List Tm.Qw):Prop:=∃(A:Option Addr) (c:Nat) (M:List We),M.map Prod.fst=L∧v=.slice A M.length c∧M.length≤c∧c≤maxLen∧Z9 w F A (M.flatMap Mp)∧∀ m∈M,Qr w F m.2 m.1.set
section
variable {w w':World} {F G:Nat→Prop} {v:Value} {L:List Tm.Qw}
theorem Qt.keep (h:Qt w F v L) (hk:Qm F w w'):Qt w' F v L:=by obtain⟨A,c,M,e0,e1,h1,h2,h3,h4⟩:=h;exact⟨A,c,M,e0,e1,h1,h2,h3.keep hk,fun m hm=>(h4 m hm).keep hk⟩
theorem Qt.below (h:Qt w F v L) (hb:Below w.heap.size w w'):Qt w' F v L:=h.keep (Qm.of_below hb)
theorem Qt.mono (h:Qt w F v L) (hF:∀ k,F k→G k):Qt w G v L:=by obtain⟨A,c,M,e0,e1,h1,h2,h3,h4⟩:=h;exact⟨A,c,M,e0,e1,h1,h2,h3.mono hF,fun m hm=>(h4 m hm).mono hF⟩
theorem Jk {A:Option Addr} {M:List We} (h:Z9 w F A (M.flatMap Mp)) {j:Nat} (hj:j<M.length):∃ b off,A=some ⟨b,off,none⟩∧b<w.heap.size∧w.cell? ⟨b,off+j*2,none⟩=some (.string ⟨M[j].1.path.toArray⟩)∧w.cell? ⟨b,off+j*2+1,none⟩=some M[j].2:=by obtain⟨b,off,e,_,h1,h2⟩:=h.get (fun _=>rfl) hj (k:=2) (by decide);exact⟨b,off,e,h1,h2 0 _ rfl,h2 1 _ rfl⟩
end
structure Qi where
 path:Tm.Qk
 major:Int
 minor:Int
 patch:Int
 reqs:List Tm.Qw
 rv:Value
 arch:Tm.Qk
 iface:Tm.Qk
 cert:Tm.Qk
 yank:Bool
def Xi (r:Qi):List Value:=[.string ⟨r.path.toArray⟩,.int .i64 r.major,.int .i64 r.minor,.int .i64 r.patch,r.rv,.string ⟨r.arch.toArray⟩,.string ⟨r.iface.toArray⟩,.string ⟨r.cert.toArray⟩,.bool r.yank]
def Qx (w:World) (F:Nat→Prop) (v:Value) (X:List Qi):Prop:=∃ A c,v=.slice A X.length c∧X.length≤c∧c≤maxLen∧Z9 w F A (X.flatMap Xi)∧∀ r∈X,Qt w F r.rv r.reqs
section
variable {w w':World} {F G:Nat→Prop} {v:Value} {X:List Qi}
theorem Qx.keep (h:Qx w F v X) (hk:Qm F w w'):Qx w' F v X:=by obtain⟨A,c,e1,h1,h2,h3,h4⟩:=h;exact⟨A,c,e1,h1,h2,h3.keep hk,fun m hm=>(h4 m hm).keep hk⟩
theorem Qx.below (h:Qx w F v X) (hb:Below w.heap.size w w'):Qx w' F v X:=h.keep (Qm.of_below hb)
theorem Qx.mono (h:Qx w F v X) (hF:∀ k,F k→G k):Qx w G v X:=by obtain⟨A,c,e1,h1,h2,h3,h4⟩:=h;exact⟨A,c,e1,h1,h2,h3.mono hF,fun m hm=>(h4 m hm).mono hF⟩
theorem Ju {A:Option Addr} (h:Z9 w F A (X.flatMap Xi)) {j:Nat} (hj:j<X.length):∃ b off,A=some ⟨b,off,none⟩∧b<w.heap.size∧w.cell? ⟨b,off+j*9,none⟩=some (.string ⟨X[j].path.toArray⟩)∧w.cell? ⟨b,off+j*9+1,none⟩=some (.int .i64 X[j].major)∧
 w.cell? ⟨b,off+j*9+2,none⟩=some (.int .i64 X[j].minor)∧w.cell? ⟨b,off+j*9+3,none⟩=some (.int .i64 X[j].patch)∧w.cell? ⟨b,off+j*9+4,none⟩=some X[j].rv∧w.cell? ⟨b,off+j*9+5,none⟩=some (.string ⟨X[j].arch.toArray⟩)∧
 w.cell? ⟨b,off+j*9+6,none⟩=some (.string ⟨X[j].iface.toArray⟩)∧w.cell? ⟨b,off+j*9+7,none⟩=some (.string ⟨X[j].cert.toArray⟩)∧w.cell? ⟨b,off+j*9+8,none⟩=some (.bool X[j].yank):=by
 obtain⟨b,off,e,_,h1,h2⟩:=h.get (fun _=>rfl) hj (k:=9) (by decide);exact⟨b,off,e,h1,h2 0 _ rfl,h2 1 _ rfl,h2 2 _ rfl,h2 3 _ rfl,h2 4 _ rfl,h2 5 _ rfl,h2 6 _ rfl,h2 7 _ rfl,h2 8 _ rfl⟩
end
def Hw (q:Tm.Qw):Bool:=!(decide (100<q.path.length)||decide (8<q.set.length))
def G3 (L:List Tm.Qw):Bool:=L.all Hw&&decide (L.length≤20)
theorem few_drop (M:List We) (k:Nat) (hk:k<M.length):((M.map Prod.fst).drop k).all Hw=(Hw M[k].1&&((M.map Prod.fst).drop (k+1)).all Hw):=by rw[List.drop_eq_getElem_cons (by simpa using hk),List.all_cons,List.getElem_map]
theorem P2 (L:List Tm.Qw) (v:Value) (F:Nat→Prop) (w:World) (h:Qt w F v L):
 Calls prog 20 #[v] w fun e w'=>e=.returned (.bool (G3 L))∧w'=w:=by
 obtain⟨A,c,M,rfl,rfl,h1,h2,h3,h4⟩:=h;obtain⟨N,hN⟩:∃ N,M.length=N:=⟨_,rfl⟩;obtain⟨res,hres⟩:∃ res,G3 (M.map Prod.fst)=res:=⟨_,rfl⟩;rw[hres,hN];have hm:N≤9223372036854775807:=by rw[←hN];exact Nat.le_trans h1 (Nat.le_trans h2 (by decide))
 have HM:=Kd4 hN h3 h4 hres;clear hN h3 h4 hres h1 h2;go_enter func20,ntmps20;go_wp2
 go_loopw [3] (fun i wr=>∃(k:Nat),k≤N∧i=.int .i64 k∧wr=w∧Hid ((M.map Prod.fst).all Hw=((M.map Prod.fst).drop k).all Hw)) (fun i _=>N-(intOf i).toNat)
 case atStart=>exact⟨0,Nat.zero_le _,rfl,rfl,Kd rfl⟩
 case round=>
  obtain⟨k,hk,rfl,rfl,hp⟩:=hrel
  by_cases hlt:k<N
  ·have hkM:k<M.length:=by rw[HM.out.1];exact hlt
   obtain⟨b,off,rfl,hb,c0,c1⟩:=Jk HM.out.2.1 hkM;obtain⟨A1,c1',e1,s1,s2,-⟩:=HM.out.2.2.1 _ (List.getElem_mem hkM);have hp:=hp.out;rw[few_drop M k hkM] at hp;have hq:Hw M[k].1=!(decide (100<M[k].1.path.length)||decide (8<M[k].1.set.length)):=rfl;rw[e1] at c1;generalize M[k].1.set=st at c1 s1 hq;generalize M[k].1.path=pt at c0 hq;have zp:=Zf pt;have i0:(0:Int)≤(k:Int):=Int.natCast_nonneg _;have i1:(k:Int)<(N:Int):=Int.ofNat_lt.2 hlt;have KL:=Kd hlt;have hend:∀(_:Hw M[k].1=false),res=false:=fun h0=>by have:=HM.out.2.2.2;unfold G3 at this;rw[hp,h0,Bool.false_and,Bool.false_and] at this;exact this.symm
   have HE:=Kd hend;have HP:=Kd hp;have HQ:=Kd hq;clear hend hp hq hb e1
   by_cases q1:100<pt.length
   ·have hr:=HE.out (by rw[HQ.out,decide_eq_true q1];rfl)
    subst hr;have q1':(100:Int)<(pt.length:Int) :=(by omega);go_wp2;go_ret;exact⟨rfl,rfl⟩
   ·have q1':¬(100:Int)<(pt.length:Int):=by omega
    by_cases q2:8<st.length
    ·have hr:=HE.out (by rw[HQ.out,decide_eq_true q2,Bool.or_true];rfl)
     subst hr;have q2':(8:Int)<(st.length:Int) :=(by omega);go_wp2;go_ret;exact⟨rfl,rfl⟩
    ·have q2':¬(8:Int)<(st.length:Int):=by omega
     have HN:=Kd (show Hw M[k].1=true by rw[HQ.out,decide_eq_false q1,decide_eq_false q2];rfl);go_wp2
     go_roundw
     case rel=>exact⟨k+1,Nat.succ_le_of_lt KL.out,by go_num,trivial,Kd (by rw[HP.out,HN.out,Bool.true_and])⟩
     case measure=>have:=KL.out;simp[intOf];omega
  ·obtain rfl:k=N:=Nat.le_antisymm hk (Nat.le_of_not_lt hlt)
   have hr:res=decide ((k:Int)≤20) :=(by have h0:=HM.out.2.2.2;have h1:=HM.out.1;have hp:=hp.out;unfold G3 at h0;rw[hp,List.drop_eq_nil_of_le (by rw[List.length_map];omega),List.length_map,h1] at h0;rw[←h0];simp;omega);subst hr;have hge:decide ((k:Int)<(k:Int))=false :=(by simp);go_wp2;go_ret;exact⟨rfl,rfl⟩
def Fg (r:Qi):Bool:=!(decide (100<r.path.length)||(decide (100<r.arch.length)||(decide (100<r.iface.length)||(decide (100<r.cert.length)||!G3 r.reqs))))
def Ey (X:List Qi):Bool:=X.all Fg&&decide (X.length≤16)
theorem fewr_drop (X:List Qi) (k:Nat) (hk:k<X.length):(X.drop k).all Fg=(Fg X[k]&&(X.drop (k+1)).all Fg):=by rw[List.drop_eq_getElem_cons hk,List.all_cons]
theorem fewr_spec (X:List Qi) (v:Value) (F:Nat→Prop) (w:World) (h:Qx w F v X):
 Calls prog 19 #[v,.int .i64 16] w fun e w'=>e=.returned (.bool (Ey X))∧w'=w:=by
 obtain⟨A,c,rfl,h1,h2,h3,h4⟩:=h;obtain⟨N,hN⟩:∃ N,X.length=N:=⟨_,rfl⟩;obtain⟨res,hres⟩:∃ res,Ey X=res:=⟨_,rfl⟩;rw[hres,hN];have hm:N≤9223372036854775807:=by rw[←hN];exact Nat.le_trans h1 (Nat.le_trans h2 (by decide))
 have HM:=Kd4 hN h3 h4 hres;clear hN h3 h4 hres h1 h2;go_enter func19,ntmps19;go_wp2
 go_loopw [5] (fun i wr=>∃(k:Nat),k≤N∧i=.int .i64 k∧wr=w∧Hid (X.all Fg=(X.drop k).all Fg)) (fun i _=>N-(intOf i).toNat)
 case atStart=>exact⟨0,Nat.zero_le _,rfl,rfl,Kd rfl⟩
 case round=>
  obtain⟨k,hk,rfl,rfl,hp⟩:=hrel
  by_cases hlt:k<N
  ·have hkM:k<X.length:=by rw[HM.out.1];exact hlt
   obtain⟨b,off,rfl,hb,c0,c1,c2,c3,c4,c5,c6,c7,c8⟩:=Ju HM.out.2.1 hkM;have kq:=P2 _ _ _ wr (HM.out.2.2.1 _ (List.getElem_mem hkM));have hp:=hp.out;rw[fewr_drop X k hkM] at hp;have hq:Fg X[k]=!(decide (100<X[k].path.length)||(decide (100<X[k].arch.length)||(decide (100<X[k].iface.length)||(decide (100<X[k].cert.length)||!G3 X[k].reqs)))):=rfl;generalize X[k].path=s0 at c0 hq;generalize X[k].arch=s1 at c5 hq;generalize X[k].iface=s2 at c6 hq;generalize X[k].cert=s3 at c7 hq;generalize hy:G3 X[k].reqs=y at kq hq;generalize X[k].rv=rv at c4 kq;have z0:=Zf s0;have z1:=Zf s1;have z2:=Zf s2;have z3:=Zf s3;have i0:(0:Int)≤(k:Int):=Int.natCast_nonneg _;have i1:(k:Int)<(N:Int):=Int.ofNat_lt.2 hlt;have KL:=Kd hlt;have hend:∀(_:Fg X[k]=false),res=false:=fun h0=>by have:=HM.out.2.2.2;unfold Ey at this;rw[hp,h0,Bool.false_and,Bool.false_and] at this;exact this.symm
   have HE:=Kd hend;have HP:=Kd hp;have HQ:=Kd hq;clear hend hp hq hb c1 c2 c3 c8 hy
   by_cases q0:100<s0.length
   ·have hr:=HE.out (by rw[HQ.out,decide_eq_true q0];rfl)
    subst hr;have q0':(100:Int)<(s0.length:Int) :=(by omega);clear kq;go_wp2;go_ret;exact⟨rfl,rfl⟩
   have q0':¬(100:Int)<(s0.length:Int):=by omega
   by_cases q1:100<s1.length
   ·have hr:=HE.out (by rw[HQ.out,decide_eq_true q1,Bool.true_or,Bool.or_true];rfl)
    subst hr;have q1':(100:Int)<(s1.length:Int) :=(by omega);clear kq;go_wp2;go_ret;exact⟨rfl,rfl⟩
   have q1':¬(100:Int)<(s1.length:Int):=by omega
   by_cases q2:100<s2.length
   ·have hr:=HE.out (by rw[HQ.out,decide_eq_true q2,Bool.true_or,Bool.or_true,Bool.or_true];rfl)
    subst hr;have q2':(100:Int)<(s2.length:Int) :=(by omega);clear kq;go_wp2;go_ret;exact⟨rfl,rfl⟩
   have q2':¬(100:Int)<(s2.length:Int):=by omega
   by_cases q3:100<s3.length
   ·have hr:=HE.out (by rw[HQ.out,decide_eq_true q3,Bool.true_or,Bool.or_true,Bool.or_true,Bool.or_true];rfl)
    subst hr;have q3':(100:Int)<(s3.length:Int) :=(by omega);clear kq;go_wp2;go_ret;exact⟨rfl,rfl⟩
   have q3':¬(100:Int)<(s3.length:Int):=by omega
   cases y with
   |false =>have hr:=HE.out (by rw[HQ.out];simp);subst hr;go_wp2_with fail;refine kq.mono ?_;rintro e w1 ⟨rfl,rfl⟩;clear kq;go_wp2;go_ret;exact⟨rfl,rfl⟩
   | true=>
     have HN:=Kd (show Fg X[k]=true by rw[HQ.out,decide_eq_false q0,decide_eq_false q1,decide_eq_false q2,decide_eq_false q3];rfl);go_wp2_with fail;refine kq.mono ?_;rintro e w1 ⟨rfl,rfl⟩;clear kq;go_wp2
     go_roundw
     case rel=>exact⟨k+1,Nat.succ_le_of_lt KL.out,by go_num,trivial,Kd (by rw[HP.out,HN.out,Bool.true_and])⟩
     case measure=>have:=KL.out;simp[intOf];omega
  ·obtain rfl:k=N:=Nat.le_antisymm hk (Nat.le_of_not_lt hlt)
   have hr:res=decide ((k:Int)≤16) :=(by have h0:=HM.out.2.2.2;have h1:=HM.out.1;have hp:=hp.out;unfold Ey at h0;rw[hp,List.drop_eq_nil_of_le (by omega),h1] at h0;rw[←h0];simp;omega);subst hr;have hge:decide ((k:Int)<(k:Int))=false :=(by simp);go_wp2;go_ret;exact⟨rfl,rfl⟩
theorem few_spec (X:List Qi) (L:List Tm.Qw) (v q:Value) (A:Option Addr) (n c:Nat) (F:Nat→Prop) (w:World) (h:Qx w F v X) (hq:Qt w F q L):
 Calls prog 5 #[.agg #[v,.slice A n c],q] w fun e w'=>e=.returned (.bool (Ey X&&G3 L))∧Below w.heap.size w w':=by
 have k1:=fewr_spec X v F _ (h.below (b1 w (.cells #[v,.slice A n c] 25)));have k2:=P2 L q F _ (hq.below (b1 w (.cells #[v,.slice A n c] 25)));obtain⟨A1,c1,rfl,-⟩:=h;obtain⟨A2,c2,M2,-,rfl,-⟩:=hq;generalize Ey X=y1 at k1;generalize G3 L=y2 at k2
 cases y1 with
 |false =>clear k2;go_enter func5,ntmps5;go_wp2_with fail;refine k1.mono ?_;rintro e w1 ⟨rfl,rfl⟩;clear k1;go_wp2;go_ret;exact⟨rfl,b1 w _⟩
 |true =>go_enter func5,ntmps5;go_wp2_with fail;refine k1.mono ?_;rintro e w1 ⟨rfl,rfl⟩;clear k1;go_wp2_with fail;refine k2.mono ?_;rintro e w1 ⟨rfl,rfl⟩;clear k2;go_wp2;go_ret;exact⟨rfl,b1 w _⟩
def Kk (n:Nat):Bool:=decide (97≤n)&&decide (n≤122)
def capN (n:Nat):Bool:=decide (65≤n)&&decide (n≤90)
def Dr (n:Nat):Bool:=decide (48≤n)&&decide (n≤57)
def Ix (n:Nat):Bool:=Kk n||(capN n||(Dr n||decide (n=95)))
def lowN (n:Nat):Bool:=Kk n||Dr n
theorem Ir (s:Tm.Qk) (k:Nat) (h:k<s.length):∀ hh,(⟨s.toArray⟩:ByteArray)[k]'hh=s[k]:=fun _=>rfl
theorem Fp (n:Nat) (w:World):Calls prog 188 #[.int .u8 (n:Int)] w fun e w'=>e=.returned (.bool (Kk n))∧w'=w:=by
 obtain⟨r,hr⟩:∃ r,Kk n=r:=⟨_,rfl⟩;rw[hr];unfold Kk at hr
 by_cases h1:97≤n
 ·have f1:decide ((n:Int)≥97)=true:=by simp;omega
  by_cases h2:n≤122
  ·have f2:decide ((n:Int)≤122)=true:=by simp;omega
   rw[decide_eq_true h1,decide_eq_true h2] at hr;have hr:true=r:=hr;subst hr;go_enter func188,ntmps188;go_wp2;go_ret;exact⟨rfl,rfl⟩
  ·have f2:decide ((n:Int)≤122)=false:=by simp;omega
   rw[decide_eq_true h1,decide_eq_false h2] at hr;have hr:false=r:=hr;subst hr;go_enter func188,ntmps188;go_wp2;go_ret;exact⟨rfl,rfl⟩
 ·have f1:decide ((n:Int)≥97)=false:=by simp;omega
  rw[decide_eq_false h1] at hr;have hr:false=r:=hr;subst hr;go_enter func188,ntmps188;go_wp2;go_ret;exact⟨rfl,rfl⟩
theorem In (n:Nat) (w:World):Calls prog 268 #[.int .u8 (n:Int)] w fun e w'=>e=.returned (.bool (capN n))∧w'=w:=by
 obtain⟨r,hr⟩:∃ r,capN n=r:=⟨_,rfl⟩;rw[hr];unfold capN at hr
 by_cases h1:65≤n
 ·have f1:decide ((n:Int)≥65)=true:=by simp;omega
  by_cases h2:n≤90
  ·have f2:decide ((n:Int)≤90)=true:=by simp;omega
   rw[decide_eq_true h1,decide_eq_true h2] at hr;have hr:true=r:=hr;subst hr;go_enter func268,ntmps268;go_wp2;go_ret;exact⟨rfl,rfl⟩
  ·have f2:decide ((n:Int)≤90)=false:=by simp;omega
   rw[decide_eq_true h1,decide_eq_false h2] at hr;have hr:false=r:=hr;subst hr;go_enter func268,ntmps268;go_wp2;go_ret;exact⟨rfl,rfl⟩
 ·have f1:decide ((n:Int)≥65)=false:=by simp;omega
  rw[decide_eq_false h1] at hr;have hr:false=r:=hr;subst hr;go_enter func268,ntmps268;go_wp2;go_ret;exact⟨rfl,rfl⟩
theorem Bb (n:Nat) (w:World):Calls prog 189 #[.int .u8 (n:Int)] w fun e w'=>e=.returned (.bool (Dr n))∧w'=w:=by
 obtain⟨r,hr⟩:∃ r,Dr n=r:=⟨_,rfl⟩;rw[hr];unfold Dr at hr
 by_cases h1:48≤n
 ·have f1:decide ((n:Int)≥48)=true:=by simp;omega
  by_cases h2:n≤57
  ·have f2:decide ((n:Int)≤57)=true:=by simp;omega
   rw[decide_eq_true h1,decide_eq_true h2] at hr;have hr:true=r:=hr;subst hr;go_enter func189,ntmps189;go_wp2;go_ret;exact⟨rfl,rfl⟩
  ·have f2:decide ((n:Int)≤57)=false:=by simp;omega
   rw[decide_eq_true h1,decide_eq_false h2] at hr;have hr:false=r:=hr;subst hr;go_enter func189,ntmps189;go_wp2;go_ret;exact⟨rfl,rfl⟩
 ·have f1:decide ((n:Int)≥48)=false:=by simp;omega
  rw[decide_eq_false h1] at hr;have hr:false=r:=hr;subst hr;go_enter func189,ntmps189;go_wp2;go_ret;exact⟨rfl,rfl⟩
theorem low_spec (n:Nat) (w:World):Calls prog 187 #[.int .u8 (n:Int)] w fun e w'=>e=.returned (.bool (lowN n))∧w'=w:=by
 have k1:=Fp n w;have k2:=Bb n w;unfold lowN;generalize Kk n=a at k1 ⊢;generalize Dr n=b at k2 ⊢
 cases a with
 |true =>clear k2;rw[Bool.true_or];go_enter func187,ntmps187;go_wp2_with fail;refine k1.mono ?_;rintro e w1 ⟨rfl,rfl⟩;clear k1;go_wp2;go_ret;exact⟨rfl,rfl⟩
 |false =>rw[Bool.false_or];go_enter func187,ntmps187;go_wp2_with fail;refine k1.mono ?_;rintro e w1 ⟨rfl,rfl⟩;clear k1;go_wp2_with fail;refine k2.mono ?_;rintro e w1 ⟨rfl,rfl⟩;clear k2;go_wp2;go_ret;exact⟨rfl,rfl⟩
theorem word_spec (n:Nat) (w:World):Calls prog 230 #[.int .u8 (n:Int)] w fun e w'=>e=.returned (.bool (Ix n))∧w'=w:=by
 have k1:=Fp n w;have k2:=In n w;have k3:=Bb n w
 have f4:((n:Int)==95)=decide (n=95):=by
  by_cases h:n=95
  ·subst h
   rfl
  ·rw[decide_eq_false h]
   exact beq_eq_false_iff_ne.2 (by omega)
 unfold Ix;generalize Kk n=a at k1 ⊢;generalize capN n=b at k2 ⊢;generalize Dr n=c at k3 ⊢;generalize decide (n=95)=d at f4 ⊢;generalize hm:(n:Int)=m at k1 k2 k3 f4 ⊢;clear hm
 cases a with
 |true =>clear k2 k3 f4;go_enter func230,ntmps230;go_wp2_with fail;refine k1.mono ?_;rintro e w1 ⟨rfl,rfl⟩;clear k1;go_wp2;go_ret;exact⟨rfl,rfl⟩
 | false=>
   cases b with
   |true =>clear k3 f4;go_enter func230,ntmps230;go_wp2_with fail;refine k1.mono ?_;rintro e w1 ⟨rfl,rfl⟩;clear k1;go_wp2_with fail;refine k2.mono ?_;rintro e w1 ⟨rfl,rfl⟩;clear k2;go_wp2;go_ret;exact⟨rfl,rfl⟩
   | false=>
     cases c with
     |true =>clear f4;go_enter func230,ntmps230;go_wp2_with fail;refine k1.mono ?_;rintro e w1 ⟨rfl,rfl⟩;clear k1;go_wp2_with fail;refine k2.mono ?_;rintro e w1 ⟨rfl,rfl⟩;clear k2;go_wp2_with fail;refine k3.mono ?_;rintro e w1 ⟨rfl,rfl⟩;clear k3;go_wp2;go_ret;exact⟨rfl,rfl⟩
     |false =>go_enter func230,ntmps230;go_wp2_with fail;refine k1.mono ?_;rintro e w1 ⟨rfl,rfl⟩;clear k1;go_wp2_with fail;refine k2.mono ?_;rintro e w1 ⟨rfl,rfl⟩;clear k2;go_wp2_with fail;refine k3.mono ?_;rintro e w1 ⟨rfl,rfl⟩;clear k3;go_wp2;go_ret;exact⟨rfl,rfl⟩
def Nd (p:Nat→Bool) (s:Tm.Qk):Bool:=s.all fun c=>p c.toNat
theorem Mg (f:Nat) (he:∀ args w,(callFunc f args).run prog w=.ok (.enter f args) w) (p:Nat→Bool) (kf:∀(n:Nat) (W:World),Calls prog f #[.int .u8 (n:Int)] W fun e w'=>e=.returned (.bool (p n))∧w'=W)
 (s:Tm.Qk) (w:World) (hs:s.length≤maxLen):Calls prog 186 #[.string ⟨s.toArray⟩,.func (.func f) #[] #[]] w fun e w'=>e=.returned (.bool (Nd p s))∧w'=w:=by
 obtain⟨N,hN⟩:∃ N,s.length=N:=⟨_,rfl⟩;obtain⟨res,hres⟩:∃ res,Nd p s=res:=⟨_,rfl⟩;rw[hres];have hm:N≤9223372036854775807:=by rw[←hN];exact Nat.le_trans hs (by decide)
 have zs:=(Zf s).trans hN;have HM:=Kd2 hN hres;have KF:=Kd kf;clear hN hres hs kf;go_enter func186,ntmps186;go_wp2
 go_loopw [8] (fun i wr=>∃(k:Nat),k≤N∧i=.int .i64 k∧wr=w∧Hid (s.all (fun c=>p c.toNat)=(s.drop k).all fun c=>p c.toNat)) (fun i _=>N-(intOf i).toNat)
 case atStart=>exact⟨0,Nat.zero_le _,rfl,rfl,Kd rfl⟩
 case round=>
  obtain⟨k,hk,rfl,rfl,hp⟩:=hrel
  by_cases hlt:k<N
  ·have hks:k<s.length:=by rw[HM.out.1];exact hlt
   have hp:=hp.out;rw[List.drop_eq_getElem_cons hks,List.all_cons] at hp;obtain⟨x,hx⟩:∃ x,s[k]=x:=⟨_,rfl⟩;have hat:∀ hh,(⟨s.toArray⟩:ByteArray)[k]'hh=x:=fun hh=>(Ir s k hks hh).trans hx;rw[hx] at hp;have kx:=KF.out x.toNat wr;generalize hy:p x.toNat=y at kx hp;have i0:(0:Int)≤(k:Int):=Int.natCast_nonneg _;have i1:(k:Int)<(N:Int):=Int.ofNat_lt.2 hlt;have KL:=Kd hlt;have HP:=Kd hp;clear hp hy hx
   cases y with
   |false =>have hr:res=false :=(by rw[←HM.out.2];exact HP.out);subst hr;go_wp2_with fail;refine kx.mono ?_;rintro e w1 ⟨rfl,rfl⟩;clear kx;go_wp2;go_ret;exact⟨rfl,rfl⟩
   | true=>
     go_wp2_with fail;refine kx.mono ?_;rintro e w1 ⟨rfl,rfl⟩;clear kx;go_wp2
     go_roundw
     case rel=>exact⟨k+1,Nat.succ_le_of_lt KL.out,by go_num,trivial,Kd (by rw[HP.out,Bool.true_and])⟩
     case measure=>have:=KL.out;simp[intOf];omega
  ·obtain rfl:k=N:=Nat.le_antisymm hk (Nat.le_of_not_lt hlt)
   have hr:res=true :=(by rw[←HM.out.2];unfold Nd;rw[hp.out,List.drop_eq_nil_of_le (by rw[HM.out.1];exact Nat.le_refl _)];rfl);subst hr;have hge:decide ((k:Int)<(k:Int))=false :=(by simp);go_wp2;go_ret;exact⟨rfl,rfl⟩
theorem hasv_spec (s:Tm.Qk) (w:World):Calls prog 290 #[.string ⟨s.toArray⟩,.string ⟨#[118]⟩] w fun e w'=>e=.returned (.bool (Lib.hasPrefix s [118]))∧w'=w:=
 Any.stringslite_HasPrefix Tryz.laysHasPrefix _ _ w
theorem cutv_spec (s:Tm.Qk) (w:World) (hs:s.length≤maxLen):Calls prog 267 #[.string ⟨s.toArray⟩,.string ⟨#[118]⟩] w fun e w'=>e=.returned (.tuple #[.string ⟨(if Lib.hasPrefix s [118] then s.drop 1 else s).toArray⟩,.bool (Lib.hasPrefix s [118])])∧w'=w:=by
 have k:=hasv_spec s w
 cases hp:Lib.hasPrefix s [118] with
 |false =>rw[hp] at k;go_enter func267,ntmps267;go_wp2_with fail;refine k.mono ?_;rintro e w' ⟨rfl,rfl⟩;go_wp2;go_ret2;exact⟨rfl,rfl⟩
 | true=>
   rw[hp] at k
   have hl:1≤s.length:=by
    cases s with
    |nil=>cases hp
    |cons a s=>simp
   have hz:(⟨s.toArray⟩:ByteArray).size=s.length:=Zf s;have hc:(⟨s.toArray⟩:ByteArray).extract 1 s.length=⟨(s.drop 1).toArray⟩ :=(by rw[bytes_cut,List.take_of_length_le (by rw[List.length_drop];exact Nat.le_refl _)]);have hl2:(1:Int)≤(s.length:Int) :=(by omega);have hl3:s.length≤9223372036854775807:=Nat.le_trans hs (by decide);generalize s.length=n at *;go_enter func267,ntmps267;go_wp2_with fail;refine k.mono ?_;rintro e w' ⟨rfl,rfl⟩;go_wp2;go_ret2;exact⟨rfl,rfl⟩
theorem cutp_spec (s:Tm.Qk) (w:World) (hs:s.length≤maxLen):Calls prog 229 #[.string ⟨s.toArray⟩,.string ⟨#[118]⟩] w fun e w'=>e=.returned (.tuple #[.string ⟨(if Lib.hasPrefix s [118] then s.drop 1 else s).toArray⟩,.bool (Lib.hasPrefix s [118])])∧w'=w:=by have k:=cutv_spec s w hs;generalize (if Lib.hasPrefix s [118] then s.drop 1 else s)=t at k ⊢;generalize Lib.hasPrefix s [118]=b at k ⊢;go_enter func229,ntmps229;go_wp2_with fail;refine k.mono ?_;rintro e w' ⟨rfl,rfl⟩;go_wp2;go_ret2;exact⟨rfl,rfl⟩
def Rf (t:Tm.Qk):Nat:=t.foldl (fun n c=>10*n+(c.toNat-48)) 0
def verN (s:Tm.Qk):Option Nat:=match Lib.hasPrefix s [118] with
 |false=>none
 |true=>if s.drop 1=[] then none else if 3<(s.drop 1).length then none else if 1<(s.drop 1).length∧(s.drop 1).head?=some 48 then none else if Nd Dr (s.drop 1)=true then some (Rf (s.drop 1)) else none
def verV (o:Option Nat):Value:=match o with
 |some n=>.tuple #[.int .i64 n,.bool true]
 |none=>.tuple #[.int .i64 0,.bool false]
theorem lver_spec (s : Tm.Qk) (w : World) (hs : s.length ≤  maxLen):Calls prog 184 #[.string ⟨s.toArray⟩] w fun e w'=>e=.returned (verV (verN s))∧w'=w:=by
 have kc:=cutp_spec s w hs;have kd:=fun (t:Tm.Qk) (W:World) (h:t.length≤maxLen)=>Mg 189 (enters_of func189 (by kernel_rfl) rfl) Dr Bb t W h;unfold verN
 cases hp:Lib.hasPrefix s [118] with
 |false =>rw[hp] at kc;go_enter func184,ntmps184;go_wp2_with fail;refine kc.mono ?_;rintro e w' ⟨rfl,rfl⟩;go_wp2;go_ret2;exact⟨rfl,rfl⟩
 | true =>
   rw[hp,if_pos rfl] at kc;dsimp only;have ht:(s.drop 1).length≤maxLen:=Nat.le_trans (by rw[List.length_drop];omega) hs;generalize s.drop 1=t at kc ht ⊢;have hz:(⟨t.toArray⟩:ByteArray).size=t.length:=Zf t
   by_cases h0:t=[]
   ·subst h0
    rw[if_pos rfl];go_enter func184,ntmps184;go_wp2_with fail;refine kc.mono ?_;rintro e w' ⟨rfl,rfl⟩;go_wp2;go_ret2;exact⟨rfl,rfl⟩
   ·rw [if_neg h0]
    obtain⟨n,hn⟩:∃ n,t.length=n:=⟨_,rfl⟩
    obtain⟨a,u,hu⟩:∃ a u,t=a::u:=by
     cases t with
     |nil=>exact absurd rfl h0
     |cons a u=>exact⟨a,u,rfl⟩
    have hne:t.isEmpty=false :=(by rw[hu];rfl);have hat:∀ hh,(⟨t.toArray⟩:ByteArray)[0]'hh=a:=fun hh=>by subst hu;rfl
    have hhd:t.head?=some a :=(by rw[hu];rfl);have n1:1≤n :=(by rw[←hn,hu,List.length_cons];omega);rw[hn] at hz ht ⊢;rw[hhd];have hnm:n≤9223372036854775807:=Nat.le_trans ht (by decide);have kt:=kd t w (by rw[hn];exact ht);have HU:=Kd2 hn hu;clear kd h0 hu hn hhd
    by_cases h3:3<n
    ·rw[if_pos h3]
     have g3:(3:Int)<(n:Int) :=(by omega);go_enter func184,ntmps184;go_wp2_with fail;refine kc.mono ?_;rintro e w' ⟨rfl,rfl⟩;go_wp2;go_ret2;exact⟨rfl,rfl⟩
    ·rw [if_neg h3]
     have g3:¬(3:Int)<(n:Int):=by omega
     by_cases h4:1<n∧some a=some 48
     ·rw[if_pos h4]
      obtain⟨h4,h5⟩:=h4;obtain rfl:=Option.some.inj h5;have g4:(1:Int)<(n:Int) :=(by omega);go_enter func184,ntmps184;go_wp2_with fail;refine kc.mono ?_;rintro e w' ⟨rfl,rfl⟩;go_wp2;go_ret2;exact⟨rfl,rfl⟩
     ·rw [if_neg h4]
      have hdig:∀(b:Bool),Nd Dr t=b→Calls prog 184 #[.string ⟨s.toArray⟩] w fun e w'=>e=.returned (verV (if b=true then some (Rf t) else none))∧w'=w:=by
       intro b hb;rw[hb] at kt;have HB:=Kd hb;clear hb
       by_cases g4:1<n
       ·have h5:((a.toNat:Int)==48)=false:=beq_eq_false_iff_ne.2 fun e=>h4 ⟨g4,by congr 1;apply UInt8.toNat_inj.1;show a.toNat=48;omega⟩
        have g5:(1:Int)<(n:Int):=by omega
        cases b with
        |false =>go_enter func184,ntmps184;go_wp2_with fail;refine kc.mono ?_;rintro e w' ⟨rfl,rfl⟩;go_wp2_with fail;refine kt.mono ?_;rintro e w' ⟨rfl,rfl⟩;go_wp2;go_ret2;exact⟨rfl,rfl⟩
        | true=>
          rw[if_pos rfl];obtain⟨q,hq⟩:∃ q,Rf t=q:=⟨_,rfl⟩;rw[hq];have HQ:=Kd hq;clear hq;go_enter func184,ntmps184;go_wp2_with fail;refine kc.mono ?_;rintro e w' ⟨rfl,rfl⟩;go_wp2_with fail;refine kt.mono ?_;rintro e w' ⟨rfl,rfl⟩;clear kt kc;go_wp2
          go_loopw [40,5] (fun i acc wr=>∃(k m:Nat),k≤n∧i=.int .i64 k∧wr=w'∧acc=.int .i64 m∧m<10 ^ k∧Hid (m=Rf (t.take k))) (fun i _ _=>n-(intOf i).toNat)
          case atStart=>exact⟨0,0,Nat.zero_le _,rfl,rfl,rfl,by decide,Kd rfl⟩
          case round=>
           obtain⟨k,m,hk,rfl,rfl,rfl,hm,hnu⟩:=hrel
           by_cases hlt:k<n
           ·have hkt:k<t.length:=by rw[HU.out.1];exact hlt
            obtain⟨x,hx⟩:∃ x,t[k]=x:=⟨_,rfl⟩;have hatk:∀ hh,(⟨t.toArray⟩:ByteArray)[k]'hh=x:=fun hh=>(Ir t k hkt hh).trans hx;have hdx:Dr x.toNat=true :=(by have:=HB.out;unfold Nd at this;rw[←hx];exact List.all_eq_true.1 this _ (List.getElem_mem hkt));have hnx:Rf (t.take (k+1))=10*Rf (t.take k)+(x.toNat-48) :=(by unfold Rf;rw[List.take_succ_eq_append_getElem hkt,List.foldl_append,hx];rfl);unfold Dr at hdx;simp only[Bool.and_eq_true,decide_eq_true_eq] at hdx
            have h10 : m < 100 := Nat.lt_of_lt_of_le hm (by have:k≤2:=by omega
                                                            exact Nat.le_trans (Nat.pow_le_pow_right (by decide) this) (by decide))
            have hm2:10*m+(x.toNat-48)<10 ^ (k+1) :=(by rw[Nat.pow_succ];omega);have wu:IntKind.u8.wrap ((x.toNat:Int)-48)=(x.toNat:Int)-48 :=(by simp[IntKind.wrap,IntKind.bits,IntKind.signed];omega);have wv:IntKind.i64.wrap ((x.toNat:Int)-48)=(x.toNat:Int)-48 :=(by rw[IntKind.wrap_i64];omega);have wx:IntKind.i64.wrap (10*(m:Int))=10*(m:Int) :=(by rw[IntKind.wrap_i64];omega);have wy:IntKind.i64.wrap (10*(m:Int)+((x.toNat:Int)-48))=((10*m+(x.toNat-48):Nat):Int) :=(by rw[IntKind.wrap_i64];omega);have i0:(0:Int)≤(k:Int):=Int.natCast_nonneg _;have i1:(k:Int)<(n:Int):=Int.ofNat_lt.2 hlt;have KL:=Kd hlt;have HN:=Kd2 hnx hm2;clear hnx hm2 hdx hm hx hkt h10;go_wp2
            go_roundw
            case rel=>exact⟨k+1,10*m+(x.toNat-48),Nat.succ_le_of_lt KL.out,by go_num,trivial,rfl,HN.out.2,Kd (by rw[HN.out.1,hnu.out])⟩
            case measure=>have:=KL.out;simp[intOf];omega
           ·obtain rfl:k=n:=Nat.le_antisymm hk (Nat.le_of_not_lt hlt)
            have hge:decide ((k:Int)<(k:Int))=false :=(by simp);obtain rfl:m=q :=(by rw[hnu.out,←HU.out.1,List.take_length,HQ.out]);clear hnu;go_wp2;go_ret2;exact⟨rfl,rfl⟩
       ·have g5:¬(1:Int)<(n:Int):=by omega
        cases b with
        |false =>go_enter func184,ntmps184;go_wp2_with fail;refine kc.mono ?_;rintro e w' ⟨rfl,rfl⟩;go_wp2_with fail;refine kt.mono ?_;rintro e w' ⟨rfl,rfl⟩;go_wp2;go_ret2;exact⟨rfl,rfl⟩
        | true=>
          rw[if_pos rfl];obtain⟨q,hq⟩:∃ q,Rf t=q:=⟨_,rfl⟩;rw[hq];have HQ:=Kd hq;clear hq;go_enter func184,ntmps184;go_wp2_with fail;refine kc.mono ?_;rintro e w' ⟨rfl,rfl⟩;go_wp2_with fail;refine kt.mono ?_;rintro e w' ⟨rfl,rfl⟩;clear kt kc;go_wp2
          go_loopw [40,5] (fun i acc wr=>∃(k m:Nat),k≤n∧i=.int .i64 k∧wr=w'∧acc=.int .i64 m∧m<10 ^ k∧Hid (m=Rf (t.take k))) (fun i _ _=>n-(intOf i).toNat)
          case atStart=>exact⟨0,0,Nat.zero_le _,rfl,rfl,rfl,by decide,Kd rfl⟩
          case round=>
           obtain⟨k,m,hk,rfl,rfl,rfl,hm,hnu⟩:=hrel
           by_cases hlt:k<n
           ·have hkt:k<t.length:=by rw[HU.out.1];exact hlt
            obtain⟨x,hx⟩:∃ x,t[k]=x:=⟨_,rfl⟩;have hatk:∀ hh,(⟨t.toArray⟩:ByteArray)[k]'hh=x:=fun hh=>(Ir t k hkt hh).trans hx;have hdx:Dr x.toNat=true :=(by have:=HB.out;unfold Nd at this;rw[←hx];exact List.all_eq_true.1 this _ (List.getElem_mem hkt));have hnx:Rf (t.take (k+1))=10*Rf (t.take k)+(x.toNat-48) :=(by unfold Rf;rw[List.take_succ_eq_append_getElem hkt,List.foldl_append,hx];rfl);unfold Dr at hdx;simp only[Bool.and_eq_true,decide_eq_true_eq] at hdx
            have h10 : m < 100 := Nat.lt_of_lt_of_le hm (by have:k≤2:=by omega
                                                            exact Nat.le_trans (Nat.pow_le_pow_right (by decide) this) (by decide))
            have hm2:10*m+(x.toNat-48)<10 ^ (k+1) :=(by rw[Nat.pow_succ];omega);have wu:IntKind.u8.wrap ((x.toNat:Int)-48)=(x.toNat:Int)-48 :=(by simp[IntKind.wrap,IntKind.bits,IntKind.signed];omega);have wv:IntKind.i64.wrap ((x.toNat:Int)-48)=(x.toNat:Int)-48 :=(by rw[IntKind.wrap_i64];omega);have wx:IntKind.i64.wrap (10*(m:Int))=10*(m:Int) :=(by rw[IntKind.wrap_i64];omega);have wy:IntKind.i64.wrap (10*(m:Int)+((x.toNat:Int)-48))=((10*m+(x.toNat-48):Nat):Int) :=(by rw[IntKind.wrap_i64];omega);have i0:(0:Int)≤(k:Int):=Int.natCast_nonneg _;have i1:(k:Int)<(n:Int):=Int.ofNat_lt.2 hlt;have KL:=Kd hlt;have HN:=Kd2 hnx hm2;clear hnx hm2 hdx hm hx hkt h10;go_wp2
            go_roundw
            case rel=>exact⟨k+1,10*m+(x.toNat-48),Nat.succ_le_of_lt KL.out,by go_num,trivial,rfl,HN.out.2,Kd (by rw[HN.out.1,hnu.out])⟩
            case measure=>have:=KL.out;simp[intOf];omega
           ·obtain rfl:k=n:=Nat.le_antisymm hk (Nat.le_of_not_lt hlt)
            have hge:decide ((k:Int)<(k:Int))=false :=(by simp);obtain rfl:m=q :=(by rw[hnu.out,←HU.out.1,List.take_length,HQ.out]);clear hnu;go_wp2;go_ret2;exact⟨rfl,rfl⟩
      exact hdig _ rfl
def kwords:Tm.Qk:=[32,97,110,100,32,97,110,121,32,97,115,32,98,111,111,108,32,100,101,112,114,101,99,97,116,101,100,32,101,108,115,101,32,101,120,112,111,114,116,32,102,97,108,115,101,32,102,110,32,102,111,108,100,32,102,114,111,109,32,105,102,32,105,109,112,111,114,116,32,105,110,32,105,110,116,32,108,101,110,103,116,104,32,108,101,116,32,108,105,115,116,32,109,97,116,99,104,32,109,111,100,117,108,101,32,110,111,110,101,32,110,111,116,32,111,114,32,116,101,120,116,32,116,104,101,110,32,116,114,117,101,32,116,121,112,101,32,117,115,101,32]
def keyB (s:Tm.Qk):Bool:=Lib.contains kwords (32::(s++[32]))
def Ji (w:World):Prop:=∃ m:Int,w.cell? ⟨0,0,none⟩=some (.int .i64 m)
theorem Ji.below {w w':World} (h:Ji w) (hb:Below w.heap.size w w'):Ji w':=by obtain⟨m,hm⟩:=h;have hl:=World.block_lt_of_cell? w _ hm;exact⟨m,(hb.cell hl).trans hm⟩
theorem O9 (s:Tm.Qk) (w:World) (hs:s.length≤4294967000) (hg:Ji w):Calls prog 231 #[.string ⟨s.toArray⟩] w fun e w'=>e=.returned (.bool (keyB s))∧w'=w:=by
 obtain⟨m,hm⟩:=hg;have k:=Any.strings_Contains Tryz.laysContains ⟨kwords.toArray⟩ ⟨(32::(s++[32])).toArray⟩ m w (by decide) hm
 change Calls prog 269 _ _ _ at k
 have e1:(⟨#[32]⟩:ByteArray)++⟨s.toArray⟩=⟨(32::s).toArray⟩:=Dx [32] s;have e2:(⟨(32::s).toArray⟩:ByteArray)++⟨#[32]⟩=⟨(32::(s++[32])).toArray⟩:=Dx (32::s) [32];have ek:Lib.contains (⟨kwords.toArray⟩:ByteArray).data.toList (⟨(32::(s++[32])).toArray⟩:ByteArray).data.toList=keyB s:=rfl;rw[ek] at k;generalize keyB s=b at k ⊢;clear ek;go_enter func231,ntmps231;go_wp2_with fail;refine k.mono ?_;rintro e w' ⟨rfl,rfl⟩;go_wp2;go_ret;exact⟨rfl,rfl⟩
def S7 (s:Tm.Qk):Bool:=match s with
 |[]=>false
 |a::_=>decide (s.length≤32)&&(Kk a.toNat&&(Nd Ix s&&!keyB s))
theorem Cz (s:Tm.Qk) (w:World) (hs:s.length≤4294967000) (hg:Ji w):Calls prog 185 #[.string ⟨s.toArray⟩] w fun e w'=>e=.returned (.bool (S7 s))∧w'=w:=by
 have kk:=O9 s w hs hg;have ka:=Mg 230 (enters_of func230 (by kernel_rfl) rfl) Ix word_spec s w (Nat.le_trans hs (by decide))
 cases s with
 |nil =>unfold S7;go_enter func185,ntmps185;go_wp2;go_ret;exact⟨rfl,rfl⟩
 | cons a u=>
   obtain⟨n,hn⟩:∃ n,(a::u).length=n:=⟨_,rfl⟩;have ks:=Fp a.toNat w;unfold S7;dsimp only;rw[hn] at hs ⊢;obtain⟨s,hS⟩:∃ s,a::u=s:=⟨_,rfl⟩;have hne:s.isEmpty=false:=by rw[←hS];rfl
   have hat:∀ hh,(⟨s.toArray⟩:ByteArray)[0]'hh=a:=fun hh=>by subst hS;rfl
   have hz:(⟨s.toArray⟩:ByteArray).size=n:=(Zf s).trans (by rw[←hS];exact hn);have n1:1≤n :=(by rw[←hn,List.length_cons];omega);rw[hS] at kk ka ⊢;clear hS hn;generalize Kk a.toNat=b1 at ks ⊢;generalize Nd Ix s=b2 at ka ⊢;generalize keyB s=b3 at kk ⊢
   by_cases h32:n≤32
   ·have g:(n:Int)≤32:=by omega
    rw[decide_eq_true h32]
    cases b1 with
    |false =>go_enter func185,ntmps185;go_wp2_with fail;refine ks.mono ?_;rintro e w' ⟨rfl,rfl⟩;go_wp2;go_ret;exact⟨rfl,rfl⟩
    | true=>
      cases b2 with
      |false =>go_enter func185,ntmps185;go_wp2_with fail;refine ks.mono ?_;rintro e w' ⟨rfl,rfl⟩;go_wp2_with fail;refine ka.mono ?_;rintro e w' ⟨rfl,rfl⟩;go_wp2;go_ret;exact⟨rfl,rfl⟩
      |true =>go_enter func185,ntmps185;go_wp2_with fail;refine ks.mono ?_;rintro e w' ⟨rfl,rfl⟩;go_wp2_with fail;refine ka.mono ?_;rintro e w' ⟨rfl,rfl⟩;go_wp2_with fail;refine kk.mono ?_;rintro e w' ⟨rfl,rfl⟩;go_wp2;go_ret;exact⟨rfl,rfl⟩
   ·have g:¬(n:Int)≤32:=by omega
    rw[decide_eq_false h32];go_enter func185,ntmps185;go_wp2;go_ret;exact⟨rfl,rfl⟩
def Wo (s:Tm.Qk):List Tm.Qk:=Lib.split s [47]
theorem Lw (sep:Tm.Qk):∀(k:Nat) (s:Tm.Qk),∀ p∈Lib.splitK sep 0 k s,p.length≤s.length
 |0,s,p,h=>by rw[List.mem_singleton.1 h];exact Nat.le_refl _
 | k + 1,s,p,h=>by
   rw[Lib.splitK] at h
   split at h
   ·rw[List.mem_singleton.1 h]
    exact Nat.le_refl _
   ·rcases List.mem_cons.1 h with rfl|h
    ·rw[List.length_take]
     omega
    ·have:=Lw sep k _ p h
     rw[List.length_drop] at this;omega
theorem Bv (s:Tm.Qk):(Lib.splitB ⟨#[47]⟩ 0 (Lib.countB ⟨s.toArray⟩ ⟨#[47]⟩) ⟨s.toArray⟩).map (·.data.toList)=Wo s∧(Wo s).length=Lib.countB ⟨s.toArray⟩ ⟨#[47]⟩+1∧(Wo s).length≤s.length+1:=by
 have hd:=Lib.splitB_data ⟨#[47]⟩ 0 (Lib.countB ⟨s.toArray⟩ ⟨#[47]⟩) ⟨s.toArray⟩;have hl:=Lib.splitB_all ⟨#[47]⟩ (by decide) 0 _ ⟨s.toArray⟩ rfl;have hp:Wo s=Lib.splitK [47] 0 (Lib.countB ⟨s.toArray⟩ ⟨#[47]⟩) s:=rfl;have hd:(Lib.splitB ⟨#[47]⟩ 0 (Lib.countB ⟨s.toArray⟩ ⟨#[47]⟩) ⟨s.toArray⟩).map (·.data.toList)=Wo s:=hd.trans hp.symm;have hn:(Wo s).length=Lib.countB ⟨s.toArray⟩ ⟨#[47]⟩+1:=by rw[←hd,List.length_map,hl]
 have hc:=Lib.countB_le ⟨#[47]⟩ (by decide) (⟨s.toArray⟩:ByteArray).size ⟨s.toArray⟩ (Nat.le_refl _);rw[Zf] at hc;exact⟨hd,hn,by rw[hn];exact Nat.succ_le_succ hc⟩
theorem split_spec (s:Tm.Qk) (w:World) (hs:s.length≤4294967000) (hg:Ji w):Calls prog 183 #[.string ⟨s.toArray⟩,.string ⟨#[47]⟩] w fun e w'=>
 e=.returned (.slice (some ⟨w.heap.size,0,none⟩) (Wo s).length (Wo s).length)∧w'=w.alloc (.cells (strs (Wo s)).toArray 9):=by
 obtain⟨m,hm⟩:=hg;have k:=Any.strings_Split Tryz.laysSplit (by kernel_rfl) ⟨s.toArray⟩ ⟨#[47]⟩ m w (by rw[Zf];omega) hm (by decide)
 change Calls prog 183 _ _ _ at k
 obtain⟨hd,hn,-⟩:=Bv s;refine k.mono ?_;rintro e w' ⟨rfl,rfl⟩;refine⟨by rw[hn],?_⟩
 congr 2
 rw[←hd];unfold strs;rw[List.map_map];rfl
def Uz (s:Tm.Qk):Option Nat:=match verN ((Wo s).getD ((Wo s).length-1) []) with
 |none=>none
 |some n=>if 64<s.length∨(Wo s).length<2 then none else if (Wo s).all (fun p=>S7 p&&Nd lowN p)=true then some n else none
def majV (o:Option Nat):Value:=match o with
 |some n=>.tuple #[.int .i64 n,.int .i64 0]
 |none=>.tuple #[.int .i64 0,.int .i64 4]
theorem Ta (s:Tm.Qk) (w:World) (hs:s.length≤4294967000) (hg:Ji w):Calls prog 118 #[.string ⟨s.toArray⟩] w fun e w'=>e=.returned (majV (Uz s))∧Below w.heap.size w w':=by
 have k1:=split_spec s w hs hg;have hz:(⟨s.toArray⟩:ByteArray).size=s.length:=Zf s;have hle:∀ p∈Wo s,p.length≤4294967000:=fun p hp=>Nat.le_trans (Lw _ _ _ p hp) hs;obtain⟨-,hc1,hc2⟩:=Bv s;have h1:1≤(Wo s).length:=by omega
 clear hc1;unfold Uz;generalize Wo s=ps at k1 hle h1 hc2 ⊢;obtain⟨m,hm⟩:∃ m,s.length=m:=⟨_,rfl⟩;rw[hm] at hz hc2 hs ⊢;clear hm;obtain⟨n,hn⟩:∃ n,ps.length=n+1:=⟨ps.length-1,by omega⟩;have hn32:n≤4294967000:=by omega
 ·rw [hn] at k1 ⊢
  rw[Nat.add_sub_cancel];obtain⟨l,hl⟩:∃ l,ps[n]?=some l:=⟨_,List.getElem?_eq_getElem (by omega)⟩;have hgl:ps.getD n []=l:=by rw[List.getD_eq_getElem?_getD,hl];rfl
  rw[hgl];obtain⟨w1,hw1⟩:∃ w1,w.alloc (.cells (strs ps).toArray 9)=w1:=⟨_,rfl⟩;rw[hw1] at k1;have hb1:Below w.heap.size w w1:=by rw[←hw1];exact b1 w _
  have cc:∀ j (x:Tm.Qk),ps[j]?=some x→w1.cell? ⟨w.heap.size,j,none⟩=some (.string ⟨x.toArray⟩):=fun j x hx=>by rw[←hw1];refine((Uc.new w 9 _).cell j).trans ?_;rw[List.getElem?_toArray];unfold strs;rw[List.getElem?_map,hx];rfl
  have cl:=cc n l hl;have hg1:=hg.below hb1;have kv:=lver_spec l w1 (Nat.le_trans (hle l (List.mem_of_getElem? hl)) (by decide));have kp:∀ j (x:Tm.Qk),ps[j]?=some x→x.length≤4294967000:=fun j x hx=>hle x (List.mem_of_getElem? hx);have HP:=Kd5 hn cc kp hg1 hb1;clear cc kp hg1 hb1 hle hl hgl hg hw1 h1 hc2;have wn:IntKind.i64.wrap ((n:Int)+1-1)=(n:Int):=by rw[IntKind.wrap_i64];omega
  have wn2:IntKind.i64.wrap (n:Int)=(n:Int):=by rw[IntKind.wrap_i64];omega
  have i0:(0:Int)≤(n:Int):=Int.natCast_nonneg _;have i1:(n:Int)<(n:Int)+1:=by omega
  generalize verN l=o at kv ⊢
  cases o with
  |none =>unfold verV at kv;go_enter func118,ntmps118;go_wp2_with fail;refine k1.mono ?_;rintro e w' ⟨rfl,rfl⟩;go_wp2_with fail;refine kv.mono ?_;rintro e w' ⟨rfl,rfl⟩;go_wp2;go_ret2;exact⟨rfl,HP.out.2.2.2.2⟩
  | some v=>
    unfold verV at kv;dsimp only
    by_cases h64:64<m
    ·have g64:(64:Int)<(m:Int):=by omega
     rw[if_pos (.inl h64)];go_enter func118,ntmps118;go_wp2_with fail;refine k1.mono ?_;rintro e w' ⟨rfl,rfl⟩;go_wp2_with fail;refine kv.mono ?_;rintro e w' ⟨rfl,rfl⟩;go_wp2;go_ret2;exact⟨rfl,HP.out.2.2.2.2⟩
    ·have g64:¬(64:Int)<(m:Int):=by omega
     by_cases h2:n+1<2
     ·have g2:(n:Int)+1<2:=by omega
      rw[if_pos (.inr h2)];go_enter func118,ntmps118;go_wp2_with fail;refine k1.mono ?_;rintro e w' ⟨rfl,rfl⟩;go_wp2_with fail;refine kv.mono ?_;rintro e w' ⟨rfl,rfl⟩;go_wp2;go_ret2;exact⟨rfl,HP.out.2.2.2.2⟩
     ·have g2:¬(n:Int)+1<2:=by omega
      rw[if_neg (fun h=>by rcases h with h|h;exact h64 h;exact h2 h)];obtain⟨r,hr⟩:∃ r,ps.all (fun p=>S7 p&&Nd lowN p)=r:=⟨_,rfl⟩;rw[hr];have HR:=Kd hr;clear hr h64 h2;go_enter func118,ntmps118;go_wp2_with fail;refine k1.mono ?_;rintro e w' ⟨rfl,rfl⟩;go_wp2_with fail;refine kv.mono ?_;rintro e w' ⟨rfl,rfl⟩;clear k1 kv;go_wp2
      go_loopw [35] (fun i wr=>∃(k:Nat),k≤n+1∧i=.int .i64 k∧wr=w'∧Hid (r=(ps.drop k).all (fun p=>S7 p&&Nd lowN p))) (fun i _=>n+1-(intOf i).toNat)
      case atStart=>exact⟨0,Nat.zero_le _,rfl,rfl,Kd HR.out.symm⟩
      case round=>
       obtain⟨k,hk,rfl,rfl,hp⟩:=hrel
       by_cases hlt:k<n+1
       ·have hkp:k<ps.length:=by rw[HP.out.1];exact hlt
        have hp:=hp.out;rw[List.drop_eq_getElem_cons hkp,List.all_cons] at hp;obtain⟨x,hx⟩:∃ x,ps[k]?=some x:=⟨_,List.getElem?_eq_getElem hkp⟩;have hx2:ps[k]=x:=(List.getElem?_eq_some_iff.1 hx).2;rw[hx2] at hp;have cx:=HP.out.2.1 k x hx;have hxl:=HP.out.2.2.1 k x hx;have kn:=Cz x wr hxl HP.out.2.2.2.1;have ka:=Mg 187 (enters_of func187 (by kernel_rfl) rfl) lowN low_spec x wr (Nat.le_trans hxl (by decide));have i2:(0:Int)≤(k:Int):=Int.natCast_nonneg _;have i3:(k:Int)<(n:Int)+1 :=(by omega);have KL:=Kd hlt;generalize S7 x=bn at kn hp;generalize Nd lowN x=bl at ka hp;have HX:=Kd hp;clear hp hx2 hx hxl hkp
        cases bn with
        |false =>obtain rfl:r=false:=HX.out;go_wp2_with fail;refine kn.mono ?_;rintro e w' ⟨rfl,rfl⟩;go_wp2;go_ret2;exact⟨rfl,HP.out.2.2.2.2⟩
        | true=>
          cases bl with
          |false =>obtain rfl:r=false:=HX.out;go_wp2_with fail;refine kn.mono ?_;rintro e w' ⟨rfl,rfl⟩;go_wp2_with fail;refine ka.mono ?_;rintro e w' ⟨rfl,rfl⟩;go_wp2;go_ret2;exact⟨rfl,HP.out.2.2.2.2⟩
          | true=>
            go_wp2_with fail;refine kn.mono ?_;rintro e w' ⟨rfl,rfl⟩;go_wp2_with fail;refine ka.mono ?_;rintro e w' ⟨rfl,rfl⟩;go_wp2
            go_roundw
            case rel=>exact⟨k+1,Nat.succ_le_of_lt KL.out,by go_num,trivial,Kd HX.out⟩
            case measure=>have:=KL.out;simp[intOf];omega
       ·obtain rfl:k=n+1:=Nat.le_antisymm hk (Nat.le_of_not_lt hlt)
        obtain rfl:r=true:=by have:=hp.out;rw[←HP.out.1,List.drop_length] at this;exact this
        have hge:decide ((n:Int)+1<(n:Int)+1)=false :=(by simp);go_wp2;go_ret2;exact⟨rfl,HP.out.2.2.2.2⟩
end Go.Proofs.YtiefajiebebgoaaGreatDoor
namespace Go.Proofs.YtiefajiebebgoaaGreatDoor.Tm
set_option linter.unusedVariables false
def nI (n:Zi):List Qu:=if n.path=[] then Ux n.q else G0 n.path n.place n.q
def Rg (n:Zi):D7:=if n.path=[] then (0,[],0,n.number,0,0) else (1,n.path,n.place,n.number,0,0)
theorem Hr (s:Qv) (n:Zi):infer s n=add s (Rg n) (nI n):=by
 unfold infer Rg nI
 split<;>rfl
theorem Uh {α β:Type} {f:Nat→α→β} {y:β}:∀(l:List α) (i:Nat),y∈Ql f i l→∃(k:Nat) (a:α),l[k]?=some a∧y=f (i+k) a
 |[],_,h=>by cases h
 | a::l,i,h=>by
   rcases List.mem_cons.1 h with rfl|h
   ·exact⟨0,a,rfl,rfl⟩
   ·obtain⟨k,b,hb,e⟩:=Uh l (i+1) h
    exact⟨k+1,b,hb,by rw[e,show i+1+k=i+(k+1) by omega]⟩
def Full (q:Qw):Prop:=Jz 0 q.set∧q.set≠[]
theorem Full.some {q:Qw} (h:Full q):∃ v,0≤v∧v<1000000∧mem q.set v=true:=by
 obtain⟨h1,h2⟩:=h
 cases hs:q.set with
 |nil=>exact absurd hs h2
 |cons x s =>rw[hs] at h1;have a:=h1.1;have b:=h1.2.1;have c:=h1.2.2.1;refine⟨x.1,a,by omega,?_⟩;rw[mem_cons];simp[b]
structure Vc (x:List Qp) (roots:List Qw):Prop where
 good:Ml x
 root:∀ q∈roots,Full q
 reqs:∀ r∈x,∀ q∈r.reqs,Full q
structure Yl (x:List Qp) (dec:List Qp):Prop where
 there:∀ c∈dec,c∈x
 nodup:dec.Pairwise fun c d=>c.path≠d.path
theorem Yx {dec:List Qp} {p:Qk}:done dec p=true↔∃ c∈dec,c.path=p:=by unfold done;rw[List.any_eq_true];exact⟨fun⟨c,h,e⟩=>⟨c,h,beq_iff_eq.1 e⟩,fun⟨c,h,e⟩=>⟨c,h,beq_iff_eq.2 e⟩⟩
theorem Bz {dec:List Qp} {p:Qk} (h:done dec p=false):∀ c∈dec,c.path≠p:=fun c hc e=>by
 rw[Yx.2 ⟨c,hc,e⟩] at h
 cases h
theorem Ef {dec:List Qp} {p:Qk} (h:done dec p=false):J0 dec p=none:=by
 unfold J0
 rw[List.find?_eq_none.2 (fun c hc=>by
  have:=Bz h c hc
  simpa using this)]
 rfl
theorem P1:∀ {dec:List Qp},dec.Pairwise (fun c d=>c.path≠d.path)→∀ c∈dec,dec.find? (fun d=>d.path==c.path)=some c
 |[],_,c,hc=>by cases hc
 | d::dec,h,c,hc=>by
   obtain⟨h1,h2⟩:=List.pairwise_cons.1 h;rw[List.find?_cons];rcases List.mem_cons.1 hc with rfl|hc
   ·rw[beq_self_eq_true]
   ·have:(d.path==c.path)=false:=beq_eq_false_iff_ne.2 (h1 c hc)
    rw[this];exact P1 h2 c hc
theorem Uu {x dec:List Qp} (h:Yl x dec) {c:Qp} (hc:c∈dec):J0 dec c.path=some c.place:=by unfold J0;rw[P1 h.nodup c hc];rfl
theorem Ve {dec:List Qp} {p:Qk} {v:Int} (h:J0 dec p=some v):∃ c∈dec,c.path=p∧c.place=v:=by
 unfold J0 at h
 cases hf:dec.find? (fun c=>c.path==p) with
 |none=>rw[hf] at h;cases h
 |some c =>rw[hf] at h;injection h with h;exact⟨c,List.mem_of_find?_eq_some hf,beq_iff_eq.1 (List.find?_some (p:=fun c:Qp=>c.path==p) hf),h⟩
theorem Uv {x dec:List Qp} (hg:Ml x) (h:Yl x dec):D8 (J0 dec):=fun p v e=>by obtain⟨c,hc,_,rfl⟩:=Ve e;exact hg.place c (h.there c hc)
theorem Ls {dec:List Qp} {c:Qp} (h:done dec c.path=false):J0 (dec++[c])=Rk (J0 dec) c.path (some c.place):=by
 funext q
 by_cases e:q=c.path
 ·subst e
  rw[Ur];unfold J0
  rw[List.find?_append,List.find?_eq_none.2 (fun d hd=>by
   have:=Bz h d hd
   simpa using this),Option.none_or,List.find?_cons,beq_self_eq_true]
  rfl
 ·rw[Ea _ _ e]
  unfold J0;rw[List.find?_append,List.find?_cons,beq_eq_false_iff_ne.2 (fun e2=>e e2.symm),List.find?_nil,Option.or_none]
theorem Yl.snoc {x dec:List Qp} {c:Qp} (h:Yl x dec) (hc:c∈x) (hp:done dec c.path=false):Yl x (dec++[c]):=by
 refine⟨fun d hd=>?_,List.pairwise_append.2 ⟨h.nodup,List.pairwise_singleton _ _,fun d hd e he=>?_⟩⟩
 ·rcases List.mem_append.1 hd with hd|hd
  ·exact h.there d hd
  ·rw[List.mem_singleton.1 hd]
   exact hc
 ·rw[List.mem_singleton.1 he]
  exact Bz hp d hd
theorem La {q:Qw} {σ:Vs} (h:σ q.path=none):Zo (Q6 q) σ=true:=by have e:(Q6 q).path=q.path:=rfl;unfold Zo;rw[e,h];rfl
theorem Ht {q:Qw} {σ:Vs} {v:Int} (h:σ q.path=some v) (h0:0≤v) (h1:v<1000000):Zo (Q6 q) σ=!has q.set v:=by have e:(Q6 q).path=q.path:=rfl;unfold Zo;rw[e,h];show mem (Zc q.set) v=_;rw[J5 _ v h0 h1,Kv h0 h1]
section
variable {x:List Qp} {roots:List Qw} {dec:List Qp} {n:Zi}
theorem Eo (hx:Vc x roots) (hd:Yl x dec) (hn:n∈Jo roots dec) (der:List (List Qu)):Mi x roots der (Rg n) (nI n):=by
 unfold Jo at hn;rcases List.mem_append.1 hn with h|h
 ·obtain⟨k,q,hq,rfl⟩:=Uh _ _ h
  exact .inl ⟨rfl,q,by show roots[0+k]?=some q;rw[Nat.zero_add];exact hq,rfl⟩
 ·obtain⟨c,hc,h⟩:=List.mem_flatMap.1 h
  obtain⟨k,q,hq,rfl⟩:=Uh _ _ h;have hp:=hx.good.path c (hd.there c hc);unfold Rg nI;rw[if_neg hp,if_neg hp];exact .inr (.inl ⟨rfl,c,hd.there c hc,rfl,rfl,q,by show c.reqs[0+k]?=some q;rw[Nat.zero_add];exact hq,rfl⟩)
theorem Tv (hx:Vc x roots) {c:Qp} (hc:c∈x) (h:Yf dec c=some n) (der:List (List Qu)):Mi x roots der (Rg n) (nI n):=by unfold Yf at h;obtain⟨k,q,hq,rfl⟩:=Uh _ _ (List.mem_of_find?_eq_some h);have hp:=hx.good.path c hc;unfold Rg nI;rw[if_neg hp,if_neg hp];exact .inr (.inl ⟨rfl,c,hc,rfl,rfl,q,by show c.reqs[0+k]?=some q;rw[Nat.zero_add];exact hq,rfl⟩)
theorem Fx (n:Zi):Zh (nI n)=some (nI n):=by
 unfold nI
 split
 ·exact Rm _
 ·exact Rm _
theorem need_full (hx:Vc x roots) (hd:Yl x dec) (hn:n∈Jo roots dec):Full n.q:=by
 rcases B7 hn with⟨_,h⟩|⟨c,hc,_,_,h⟩
 ·exact hx.root _ h
 ·exact hx.reqs c (hd.there c hc) _ h
theorem nI_oth (hx:Vc x roots) (hd:Yl x dec) (hn:n∈Jo roots dec) (hp:done dec n.q.path=false):Mu n.q.path (J0 dec) (nI n)∧DomO n.q.path dec (nI n):=by
 have hr:=Uv hx.good hd;have o1:Mu n.q.path (J0 dec) [Q6 n.q]:=fun t ht hp=>by rw[List.mem_singleton.1 ht] at hp;exact absurd rfl hp
 rcases B7 hn with⟨h1,h2⟩|⟨c,hc,h1,h2,h3⟩
 ·unfold nI
  rw[if_pos h1];refine⟨O3 hr o1,fun t ht hp=>?_⟩;obtain⟨v,hv,e⟩:=By t ht;rw[List.mem_singleton.1 hv] at e;exact absurd e.symm hp
 ·have hcx:=hd.there c hc
  unfold nI;rw[if_neg (by rw[h1];exact hx.good.path c hcx)];have hat:J0 dec n.path=some n.place:=by rw[h1,h2];exact Uu hd hc
  refine⟨O3 hr fun t ht hp=>?_,fun t ht hp=>?_⟩
  ·rcases List.mem_cons.1 ht with rfl|ht
   ·exact(Ro _ _).2 hat
   ·exact o1 t ht hp
  ·obtain⟨v,hv,e⟩:=By t ht
   rcases List.mem_cons.1 hv with rfl|hv
   ·rw[←e]
    exact Yx.2 ⟨c,hc,h1.symm⟩
   ·rw[List.mem_singleton.1 hv] at e
    exact absurd e.symm hp
theorem O7 (hx:Vc x roots) (hd:Yl x dec) (hn:n∈Jo roots dec) (hp:done dec n.q.path=false) {v:Option Int} (hv:∀ k,v=some k→0≤k∧k<1000000):
 Zv (nI n) (Rk (J0 dec) n.q.path v)=Zo (Q6 n.q) (Rk (J0 dec) n.q.path v):=by
 have hr:=Om (Uv hx.good hd) n.q.path hv;rcases B7 hn with⟨h1,h2⟩|⟨c,hc,h1,h2,h3⟩
 ·unfold nI
  rw[if_pos h1];exact Li hr n.q
 ·have hcx:=hd.there c hc
  have hne:n.path≠n.q.path:=fun e=>by have:=Bz hp c hc;exact this (h1.symm.trans e)
  unfold nI;rw[if_neg (by rw[h1];exact hx.good.path c hcx),Rv hr (Bt (by rw[h2];exact(hx.good.place c hcx).1) (by rw[h2];exact(hx.good.place c hcx).2) (.inl (fun e=>hne e.symm))),(Ro _ _).2,Bool.true_and];rw[Ea _ _ hne,h1,h2];exact Uu hd hc
theorem nI_cov (hx:Vc x roots) (hd:Yl x dec) (hn:n∈Jo roots dec) (hp:done dec n.q.path=false):Cov n.q.path dec (nI n):=by obtain⟨h1,h2⟩:=nI_oth hx hd hn hp;refine⟨Fx n,h1,h2,?_⟩;have:=O7 hx hd hn hp (v:=none) (fun k e=>by cases e);rw[La (Ur _ _ _)] at this;rw[←this,←Ef hp,I1]
theorem nI_rsn (hx:Vc x roots) (hd:Yl x dec) (hn:n∈Jo roots dec) (hp:done dec n.q.path=false):Rsn n.q.path dec (nI n):=by
 obtain⟨h1,h2⟩:=nI_oth hx hd hn hp;refine⟨Fx n,h1,h2,?_⟩
 cases e:Qn (nI n) n.q.path with
 |true=>rfl
 | false=>
   exfalso;obtain⟨v,b0,b1,hm⟩:=(need_full hx hd hn).some;have k1:=O7 hx hd hn hp (v:=some v) (fun k e=>by injection e with e;omega);rw[Ru e,(nI_cov hx hd hn hp).vio,Ht (Ur _ _ _) b0 b1,Kv b0 b1,hm] at k1
   cases k1
theorem nI_at (hx:Vc x roots) (hd:Yl x dec) (hn:n∈Jo roots dec) (hp:done dec n.q.path=false) {v:Int} (b0:0≤v) (b1:v<1000000) (h:has n.q.set v=false):Zv (nI n) (Rk (J0 dec) n.q.path (some v))=true:=by rw[O7 hx hd hn hp (fun k e=>by injection e with e;omega),Ht (Ur _ _ _) b0 b1,h];rfl
theorem none_parts (hx:Vc x roots) (hd:Yl x dec) {p:Qk} (hp:done dec p=false):Rsn p dec (Xc p (Qy x p))∧∀ v,0≤v→v<1000000→(∀ c∈Zp x p,c.place≠v)→Zv (Xc p (Qy x p)) (Rk (J0 dec) p (some v))=true:=by
 have hr:=Uv hx.good hd
 have key:∀ v,0≤v→v<1000000→(∀ c∈Zp x p,c.place≠v)→Zv (Xc p (Qy x p)) (Rk (J0 dec) p (some v))=true:=fun v b0 b1 hv=>by
  rw[D9 (Om hr p (fun k e=>by injection e with e;omega)) (Em hx.good p)];unfold Zo;show (match Rk (J0 dec) p (some v) p with|none=>false|some p_1=>mem (Zc (Qy x p)) p_1)=true;rw[Ur];show mem (Zc (Qy x p)) v=true;rw[J5 _ v b0 b1]
  cases e:mem (Qy x p) v with
  |false=>rfl
  |true =>obtain⟨r,a,b,c,d⟩:=(Mf x p v b0 b1).1 e;exact absurd c (hv r (Zt.2 ⟨a,b,d⟩))
 refine⟨⟨Rm _,O3 hr fun t ht hp=>?_,fun t ht hp=>?_,?_⟩,key⟩
 ·rw[List.mem_singleton.1 ht] at hp
  exact absurd rfl hp
 ·obtain⟨v,hv,e⟩:=By t ht
  rw[List.mem_singleton.1 hv] at e;exact absurd e.symm hp
 ·cases e:Qn (Xc p (Qy x p)) p with
  |true=>rfl
  | false=>
    exfalso;obtain⟨v,h0,h1,h2⟩:=Sf x.length (x.map Qp.place) (by rw[List.length_map];exact Nat.le_refl _);have hv:v<1000000 :=(by have:=hx.good.few;omega);have k1:=key v h0 hv (fun c hc e=>h2 (List.mem_map.2 ⟨c,(Zt.1 hc).1,e⟩));rw[Ru e,D9 hr (Em hx.good p)] at k1;unfold Zo at k1;rw[show (⟨p,false,Zc (Qy x p)⟩:Qu).path=p from rfl,Ef hp] at k1
    cases k1
theorem Fs {c:Qp} {l:List Qu} (hc:Zh l=some l) (hp:done dec c.path=false) (he:Jf (dec++[c]) l=true) (hn:Qn l c.path=true):Rsn c.path dec l∧Zv l (Rk (J0 dec) c.path (some c.place))=true:=by
 unfold Jf at he;rw[Bool.and_eq_true,Ls hp] at he;refine⟨⟨hc,fun t ht hq=>?_,fun t ht hq=>?_,hn⟩,he.1⟩
 ·rw[←Hs hq (v:=some c.place)]
  exact List.all_eq_true.1 he.1 t ht
 ·have:=List.all_eq_true.1 he.2 t ht
  rw[Gx] at this;have e:(c.path==t.path)=false:=beq_eq_false_iff_ne.2 fun e=>hq e.symm;rw[e,Bool.or_false] at this;exact this
theorem Yv {c:Qp} {l:List Qu} (hp:done dec c.path=false) (he:Jf (dec++[c]) l=true) (hn:Qn l c.path=false):Jf dec l=true:=by unfold Jf at he ⊢;rw[Bool.and_eq_true,Ls hp,Ru hn] at he;rw[Bool.and_eq_true];refine⟨he.1,List.all_eq_true.2 fun t ht=>?_⟩;have:=List.all_eq_true.1 he.2 t ht;rw[Gx] at this;have e:(c.path==t.path)=false:=beq_eq_false_iff_ne.2 fun e=>X8 hn t ht e.symm;rw[e,Bool.or_false] at this;exact this
theorem Oa (hx:Vc x roots) (hd:Yl x dec) {c:Qp} (hc:c∈x) (hp:done dec c.path=false) (h:Yf dec c=some n):Jf (dec++[c]) (nI n)=true:=by
 obtain⟨h1,h2,h3,d,hdd,e1,e2⟩:=Tw h;have hw:=hd.snoc hc hp;have hr:=Uv hx.good hw;have hcp:=hx.good.place c hc;have hdx:=hw.there d hdd;have hdp:=hx.good.place d hdx;have sd:=Uu hw hdd;have sc:J0 (dec++[c]) c.path=some c.place:=Uu hw (List.mem_append.2 (.inr (List.mem_singleton.2 rfl)));unfold nI;rw[if_neg (by rw[h1];exact hx.good.path c hc)];unfold Jf;rw[Bool.and_eq_true];constructor
 ·rw[Rv hr (Bt (by rw[h2];exact hcp.1) (by rw[h2];exact hcp.2) ?_),(Ro _ _).2 (by rw[h1,h2];exact sc),Bool.true_and,Ht (by rw[←e1];exact sd) hdp.1 hdp.2,e2]
  ·rfl
  ·by_cases e:n.q.path=n.path
   ·right
    have:d.place=c.place :=(by have:J0 (dec++[c]) c.path=some d.place :=(by rw[←h1,←e,←e1];exact sd);rw[sc] at this;injection this with this;exact this.symm);rw[h2,←Kv hcp.1 hcp.2,←this];exact e2
   ·exact .inl e
 ·refine List.all_eq_true.2 fun t ht=>?_
  obtain⟨v,hv,e⟩:=By t ht;rw[←e];rcases List.mem_cons.1 hv with rfl|hv
  ·exact Yx.2 ⟨c,List.mem_append.2 (.inr (List.mem_singleton.2 rfl)),h1.symm⟩
  ·rw[List.mem_singleton.1 hv]
   exact Yx.2 ⟨d,hdd,e1⟩
end
section
variable {x:List Qp} {roots:List Qw} {dec:List Qp}
theorem Lo (rec:Qv→List Qp→Bg) (dec:List Qp) (path:Qk) (ns:List Zi) (n0:Zi) (cs:List Qp) {s:Qv} (rs:List Nat) (sk:List Ol) (h:s.full=true):(J7 x rec dec path ns n0 cs s rs sk).2.2.full=true:=by
 cases cs with
 |nil=>exact learn_full x path n0 rs h
 |cons c cs =>rw[J7,if_pos h];exact h
structure Got (x:List Qp) (dec:List Qp) (p:Qk) (s:Qv) (rs:List Nat) (cs:List Qp):Prop where
 each:∀ r∈rs,r<s.der.length∧Rsn p dec (s.der.getD r [])
 all:∀ c∈Zp x p,c∈cs∨∃ r∈rs,Zv (s.der.getD r []) (Rk (J0 dec) p (some c.place))=true
theorem Got.ext {p:Qk} {s s':Qv} {rs:List Nat} {cs:List Qp} (h:Got x dec p s rs cs) (he:Lg s s'):Got x dec p s' rs cs:=by
 refine⟨fun r hr=>?_,fun c hc=>?_⟩
 ·obtain⟨h1,h2⟩:=h.each r hr
  obtain⟨k1,k2⟩:=he.get h1;exact⟨k1,by rw[k2];exact h2⟩
 ·rcases h.all c hc with h1|⟨r,hr,h1⟩
  ·exact .inl h1
  ·exact .inr ⟨r,hr,by rw[(he.get (h.each r hr).1).2];exact h1⟩
theorem Got.more {p:Qk} {s:Qv} {rs:List Nat} {c:Qp} {cs:List Qp} (h:Got x dec p s rs (c::cs)) {r:Nat} (h1:r<s.der.length) (h2:Rsn p dec (s.der.getD r [])) (h3:Zv (s.der.getD r []) (Rk (J0 dec) p (some c.place))=true):Got x dec p s (rs++[r]) cs:=by
 refine⟨fun k hk=>?_,fun d hd=>?_⟩
 ·rcases List.mem_append.1 hk with hk|hk
  ·exact h.each k hk
  ·rw[List.mem_singleton.1 hk]
   exact⟨h1,h2⟩
 ·rcases h.all d hd with hd|⟨k,hk,e⟩
  ·rcases List.mem_cons.1 hd with rfl|hd
   ·exact .inr ⟨r,List.mem_append.2 (.inr (List.mem_singleton.2 rfl)),h3⟩
   ·exact .inl hd
  ·exact .inr ⟨k,List.mem_append.2 (.inl hk),e⟩
theorem learn_ent (hx:Vc x roots) (hd:Yl x dec) {n0:Zi} (hn:n0∈Jo roots dec) (hp:done dec n0.q.path=false) {rs:List Nat} {s:Qv} (hk:Mv x roots s) (hg:Got x dec n0.q.path s rs []) (hf:(Wq x n0.q.path n0 rs s).2.full=false):
 Mv x roots (Wq x n0.q.path n0 rs s).2∧Lg s (Wq x n0.q.path n0 rs s).2∧(Wq x n0.q.path n0 rs s).1<(Wq x n0.q.path n0 rs s).2.der.length∧Jf dec ((Wq x n0.q.path n0 rs s).2.der.getD (Wq x n0.q.path n0 rs s).1 [])=true:=by
 unfold Wq at hf ⊢
 have f2:(add (infer s n0).2 (2,n0.q.path,0,0,0,0) (Xc n0.q.path (Qy x n0.q.path))).2.full=false:=by
  cases e:(add (infer s n0).2 (2,n0.q.path,0,0,0,0) (Xc n0.q.path (Qy x n0.q.path))).2.full with
  |false=>rfl
  |true=>exact absurd (Ye n0.q.path _ _ _ e) (by rw[hf];decide)
 have f1:(infer s n0).2.full=false:=by
  cases e:(infer s n0).2.full with
  |false=>rfl
  |true=>exact absurd (D5 _ _ e) (by rw[f2];decide)
 rw[Hr] at hf f1 f2 ⊢;obtain⟨a1,a2,a3,a4⟩:=Be hx.good.uniq hk (Eo hx hd hn s.der) (Fx n0) f1;obtain⟨b1,b2,b3,b4⟩:=Be hx.good.uniq a1 (i:=(2,n0.q.path,0,0,0,0)) (l:=Xc n0.q.path (Qy x n0.q.path)) (.inr (.inr (.inl ⟨rfl,rfl⟩))) (Rm _) f2;obtain⟨p1,p2⟩:=none_parts hx hd hp;obtain⟨c1,c2⟩:=b2.get a3;have g2:=hg.ext (a2.trans b2)
 obtain⟨r1,r2,r3,r4⟩:=F5 hx.good.uniq (Uv hx.good hd) (Ef hp) _ _ _ b1 c1 (by
  rw[c2,a4]
  exact nI_cov hx hd hn hp) (fun r hr=>by
  rcases List.mem_cons.1 hr with rfl|hr
  ·exact⟨b3,by rw[b4];exact p1⟩
  ·exact g2.each r hr) (fun v b0 b1=>by
  by_cases hv:∃ c∈Zp x n0.q.path,c.place=v
  ·obtain⟨c,hc,rfl⟩:=hv
   rcases g2.all c hc with h|⟨r,hr,h⟩
   ·cases h
   ·exact .inr ⟨r,List.mem_cons_of_mem _ hr,h⟩
  ·exact .inr ⟨_,List.mem_cons_self ..,by
    rw[b4]
    exact p2 v b0 b1 fun c hc e=>hv ⟨c,hc,e⟩⟩) hf
 exact⟨r1,(a2.trans b2).trans r2,r3,r4⟩
theorem Do {der:List (List Qu)} {w:List Qp} {r:Nat} (h:Xk der w=some r):r<der.length∧Jf w (der.getD r [])=true:=by unfold Xk at h;obtain⟨h1,h2,_⟩:=List.findIdx?_eq_some_iff_getElem.1 h;exact⟨h1,by rw[Kw _ _ h1];exact h2⟩
def Ent (x:List Qp) (roots:List Qw) (dec:List Qp) (s:Qv) (z:Bg):Prop:=z.1=none→z.2.2.full=false→Mv x roots z.2.2∧Lg s z.2.2∧z.2.1<z.2.2.der.length∧Jf dec (z.2.2.der.getD z.2.1 [])=true
theorem I4 (hx:Vc x roots) (hd:Yl x dec) {rec:Qv→List Qp→Bg} {p:Qk} {ns:List Zi} {n0:Zi} (hns:∀ n∈ns,n∈Jo roots dec∧n.q.path=p) (hn0:n0∈ns) (hp:done dec p=false)
 (hrec:∀ s c,c∈Zp x p→Mv x roots s→Ent x roots (dec++[c]) s (rec s (dec++[c]))):
 ∀(cs:List Qp) (s:Qv) (rs:List Nat) (sk:List Ol),(∀ c∈cs,c∈Zp x p)→Mv x roots s→Got x dec p s rs cs→Ent x roots dec s (J7 x rec dec p ns n0 cs s rs sk)
 |[],s,rs,sk,_,hk,hg=>fun _ hf=>by have h0:=hns n0 hn0;rw[J7] at hf ⊢;rw[←h0.2] at hf hg hp ⊢;exact learn_ent hx hd h0.1 hp hk hg hf
 | c :: cs, s, rs,sk,hcs,hk,hg=>fun hz hf=>by
   have hc:=hcs c (List.mem_cons_self ..);obtain⟨hcx,hcp,hcy⟩:=Zt.1 hc;have hpl:=hx.good.place c hcx;have ih:=fun s2 r sk (e:Lg s s2) (k2:Mv x roots s2) (g2:Got x dec p s2 (rs++[r]) cs) (hz:(J7 x rec dec p ns n0 cs s2 (rs++[r]) sk).1=none) (hf:(J7 x rec dec p ns n0 cs s2 (rs++[r]) sk).2.2.full=false)=>by have:=I4 hx hd hns hn0 hp hrec cs s2 (rs++[r]) sk (fun c hc=>hcs c (List.mem_cons_of_mem _ hc)) k2 g2 hz hf;exact(⟨this.1,e.trans this.2.1,this.2.2⟩:Mv x roots (J7 x rec dec p ns n0 cs s2 (rs++[r]) sk).2.2∧Lg s (J7 x rec dec p ns n0 cs s2 (rs++[r]) sk).2.2∧_)
   have hf1:∀ s2 r sk,(J7 x rec dec p ns n0 cs s2 (rs++[r]) sk).2.2.full=false→s2.full=false:=fun s2 r sk h=>by
    cases e:s2.full with
    |false=>rfl
    |true=>exact absurd (Lo (x:=x) rec dec p ns n0 cs (rs++[r]) sk e) (by rw[h];decide)
   rw[J7] at hz hf ⊢
   by_cases hs:s.full=true
   ·rw[if_pos hs] at hf
    rw[hs] at hf
    cases hf
   ·rw [if_neg hs] at hz hf ⊢
    have hpc:done dec c.path=false:=by rw[hcp];exact hp
    cases h1:ns.find? fun n=>!has n.q.set c.place with
    |some k =>rw[h1] at hz hf;dsimp only at hz hf ⊢;have fk:=hf1 _ _ _ hf;rw[Hr] at hz hf fk ⊢;obtain⟨kn,kp⟩:=hns k (List.mem_of_find?_eq_some h1);have hno:=List.find?_some h1;obtain⟨a1,a2,a3,a4⟩:=Be hx.good.uniq hk (Eo hx hd kn s.der) (Fx k) fk;have hkp:done dec k.q.path=false :=(by rw[kp];exact hp);have hh:has k.q.set c.place=false :=(by simpa using hno);have r1:=nI_rsn hx hd kn hkp;have r2:=nI_at hx hd kn hkp hpl.1 hpl.2 hh;rw[kp] at r1 r2;exact ih _ _ _ a2 a1 ((hg.ext a2).more a3 (by rw[a4];exact r1) (by rw[a4];exact r2)) hz hf
    | none =>
      rw[h1] at hz hf;dsimp only at hz hf ⊢
      cases h2:Xk s.der (dec++[c]) with
      | some r=>
        rw[h2] at hz hf;dsimp only at hz hf ⊢;obtain⟨e1,e2⟩:=Do h2
        by_cases h3:Qn (s.der.getD r []) p=false
        ·rw[if_pos h3] at hf ⊢
         exact⟨hk,Lg.refl s,e1,Yv hpc e2 (by rw[hcp];exact h3)⟩
        ·rw[if_neg h3] at hz hf ⊢
         have h4:Qn (s.der.getD r []) c.path=true :=(by rw[hcp];simpa using h3);have r1:=Fs (hk.canAt e1) hpc e2 h4;rw[hcp] at r1;exact ih _ _ _ (Lg.refl s) hk (hg.more e1 r1.1 r1.2) hz hf
      | none=>
        rw[h2] at hz hf;dsimp only at hz hf ⊢
        cases h3:Yf dec c with
        | some n=>
          rw[h3] at hz hf;dsimp only at hz hf ⊢
          have fk:(infer s n).2.full=false:=by
           by_cases h4:Qn ((infer s n).2.der.getD (infer s n).1 []) p=false
           ·rw[if_pos h4] at hf
            exact hf
           ·rw[if_neg h4] at hf
            exact hf1 _ _ _ hf
          rw[Hr] at hz hf fk ⊢;obtain⟨a1,a2,a3,a4⟩:=Be hx.good.uniq hk (Tv hx hcx h3 s.der) (Fx n) fk;have e2:=Oa hx hd hcx hpc h3;rw[←a4] at e2
          by_cases h4:Qn ((add s (Rg n) (nI n)).2.der.getD (add s (Rg n) (nI n)).1 []) p=false
          ·rw[if_pos h4] at hf ⊢
           exact⟨a1,a2,a3,Yv hpc e2 (by rw[hcp];exact h4)⟩
          ·rw[if_neg h4] at hz hf ⊢
           have h5:Qn ((add s (Rg n) (nI n)).2.der.getD (add s (Rg n) (nI n)).1 []) c.path=true :=(by rw[hcp];simpa using h4);have r1:=Fs (a1.canAt a3) hpc e2 h5;rw[hcp] at r1;exact ih _ _ _ a2 a1 ((hg.ext a2).more a3 r1.1 r1.2) hz hf
        | none =>
          rw[h3] at hz hf;dsimp only at hz hf ⊢;have hr:=hrec s c hc hk
          cases h4:rec s (dec++[c]) with
          | mk o z=>
            obtain⟨r,s2⟩:=z;rw[h4] at hz hf hr
            cases o with
            | some dt=>
              obtain⟨d,t⟩:=dt
              cases hz
            | none=>
              dsimp only at hz hf ⊢
              by_cases h5:s2.full=true
              ·rw[if_pos h5] at hf
               have hf:s2.full=false:=hf;rw[h5] at hf
               cases hf
              ·rw[if_neg h5] at hz hf ⊢
               obtain⟨a1,a2,a3,a4⟩:=hr rfl (by simpa using h5);have a1:Mv x roots s2:=a1;have a2:Lg s s2:=a2;have a3:r<s2.der.length:=a3;have a4:Jf (dec++[c]) (s2.der.getD r [])=true:=a4
               by_cases h6:Qn (s2.der.getD r []) p=false
               ·rw[if_pos h6] at hf ⊢
                exact⟨a1,a2,a3,Yv hpc a4 (by rw[hcp];exact h6)⟩
               ·rw[if_neg h6] at hz hf ⊢
                have h7:Qn (s2.der.getD r []) c.path=true :=(by rw[hcp];simpa using h6);have r1:=Fs (a1.canAt a3) hpc a4 h7;rw[hcp] at r1;exact ih _ _ _ a2 a1 ((hg.ext a2).more a3 r1.1 r1.2) hz hf
theorem Ly (hx:Vc x roots):∀(f:Nat) (s:Qv) (dec:List Qp),Yl x dec→Xb x dec<f→Mv x roots s→Ent x roots dec s (Za x roots f s dec)
 |0,_,_,_,h,_=>absurd h (Nat.not_lt_zero _)
 | f + 1,s,dec,hd,hl,hk=>by
   intro hz hf;rw[Za] at hz hf ⊢;have hok:=Yc roots dec
   cases e:(next roots dec).2 with
   | nil=>
     rw[e] at hz
     cases hz
   | cons n0 ns=>
     rw[e] at hz hf;dsimp only at hz hf ⊢;have hn0:n0∈(next roots dec).2 :=(by rw[e];exact List.mem_cons_self ..);have hp:done dec (next roots dec).1=false :=(by rw[←(hok n0 hn0).2.1];exact(hok n0 hn0).2.2);refine I4 hx hd (ns:=n0::ns) (fun n hn=>?_) (List.mem_cons_self ..) hp (fun s c hc hk=>?_) _ s [] [] (fun c hc=>hc) hk ⟨fun r hr=>(by cases hr),fun c hc=>.inl hc⟩ hz hf
     ·have:=hok n (by rw[e];exact hn)
      exact⟨this.1,this.2.1⟩
     ·obtain⟨c1,c2,c3⟩:=Zt.1 hc
      have ho:=Vg (x:=x) (dec:=dec) (c:=c) c2 hp;have hlen:0<(Zp x (next roots dec).1).length:=List.length_pos_of_mem hc;exact Ly hx f s (dec++[c]) (hd.snoc c1 (by rw[c2];exact hp)) (by omega) hk
end
theorem I2 {x:List Qp} {rec:Qv→List Qp→Bg} {dec:List Qp} {p:Qk} {ns:List Zi} {n0:Zi} (hrec:∀ s c d t k s',rec s (dec++[c])=(some (d,t),k,s')→∃ e,d=dec++[c]++e):
 ∀(cs:List Qp) (s:Qv) (rs:List Nat) (sk:List Ol) (d:List Qp) (t:List Ol) (k:Nat) (s':Qv),J7 x rec dec p ns n0 cs s rs sk=(some (d,t),k,s')→∃ e,d=dec++e
 | [],s,rs,sk,d,t,k,s',h=>by
   rw[J7] at h
   cases h
 | c :: cs,s,rs,sk,d,t,k,s',h=>by
   have ih:=fun s rs sk=>I2 (x:=x) (p:=p) (ns:=ns) (n0:=n0) hrec cs s rs sk d t k s';rw[J7] at h
   split at h
   ·cases h
   ·split at h
    ·exact ih _ _ _ h
    ·split at h
     ·split at h
      ·cases h
      ·exact ih _ _ _ h
     ·split at h
      ·split at h
       ·cases h
       ·exact ih _ _ _ h
      ·split at h
       ·rename_i d' t' k' s2 e
        injection h with h _;injection h with h;injection h with h _;subst h;obtain⟨e2,h2⟩:=hrec _ _ _ _ _ _ e;exact⟨[c]++e2,by rw[h2,List.append_assoc]⟩
       ·split at h
        ·cases h
        ·split at h
         ·cases h
         ·exact ih _ _ _ h
theorem Lx (x:List Qp) (roots:List Qw):∀(f:Nat) (s:Qv) (dec:List Qp) (d:List Qp) (t:List Ol) (k:Nat) (s':Qv),Za x roots f s dec=(some (d,t),k,s')→∃ e,d=dec++e
 |0,_,_,_,_,_,_,h=>by cases h
 | f+1,s,dec,d,t,k,s',h=>by
   rw[Za] at h
   split at h
   ·injection h with h _
    injection h with h;injection h with h _;exact⟨[],by rw[←h,List.append_nil]⟩
   ·exact I2 (fun s c d t k s' h=>Lx x roots f s (dec++[c]) d t k s' h) _ _ _ _ _ _ _ _ h
theorem Mw.weak {x:List Qp} {roots:List Qw} {d:List Qp} (h:Mw x roots d):Yl x d:=⟨fun c hc=>(h.there c hc).1,h.nodup⟩
theorem need_root {roots:List Qw} {dec:List Qp} {q:Qw} (h:q∈roots):∃ n∈Jo roots dec,n.q=q:=by
 have key:∀(l:List Qw) (i:Nat),q∈l→∃ n∈Ql (fun i q=>(⟨q,[],0,i⟩:Zi)) i l,n.q=q:=by
  intro l
  induction l with
  |nil=>intro i h;cases h
  | cons a l ih=>
    intro i h;rcases List.mem_cons.1 h with rfl|h
    ·exact⟨_,List.mem_cons_self ..,rfl⟩
    ·obtain⟨n,hn,e⟩:=ih (i+1) h
     exact⟨n,List.mem_cons_of_mem _ hn,e⟩
 obtain⟨n,hn,e⟩:=key roots 0 h;exact⟨n,List.mem_append.2 (.inl hn),e⟩
theorem need_rel {roots:List Qw} {dec:List Qp} {c:Qp} {q:Qw} (hc:c∈dec) (h:q∈c.reqs):∃ n∈Jo roots dec,n.q=q:=by
 have key:∀(l:List Qw) (i:Nat),q∈l→∃ n∈Ql (fun i q=>(⟨q,c.path,c.place,i⟩:Zi)) i l,n.q=q:=by
  intro l
  induction l with
  |nil=>intro i h;cases h
  | cons a l ih=>
    intro i h;rcases List.mem_cons.1 h with rfl|h
    ·exact⟨_,List.mem_cons_self ..,rfl⟩
    ·obtain⟨n,hn,e⟩:=ih (i+1) h
     exact⟨n,List.mem_cons_of_mem _ hn,e⟩
 obtain⟨n,hn,e⟩:=key c.reqs 0 h;exact⟨n,List.mem_append.2 (.inr (List.mem_flatMap.2 ⟨c,hc,hn⟩)),e⟩
theorem sol_of {x:List Qp} {roots:List Qw} {d:List Qp} (hg:Ml x) (hd:Mw x roots d) (hc:Mm roots d):Sol x roots (J0 d):=by
 have met:∀ n∈Jo roots d,sat n.q (J0 d):=fun n hn=>by obtain⟨c,hcd,e⟩:=Yx.1 (hc n hn);have hp:=hg.place c (hd.there c hcd).1;have hm:=hd.meets n hn c hcd e;rw[Kv hp.1 hp.2] at hm;exact⟨c.place,by rw[←e];exact Uu hd.weak hcd,hm⟩
 refine⟨Uv hg hd.weak,fun q hq=>?_,fun path p hp=>?_⟩
 ·obtain⟨n,hn,rfl⟩:=need_root (dec:=d) hq
  exact met n hn
 ·obtain⟨c,hcd,e1,e2⟩:=Ve hp
  refine⟨c,(hd.there c hcd).1,e1,e2,(hd.there c hcd).2,fun q hq=>?_⟩;obtain⟨n,hn,rfl⟩:=need_rel (roots:=roots) hcd hq;exact met n hn
section
variable {x:List Qp} {roots:List Qw} {dec:List Qp} {M:Vs}
def Hf (M:Vs) (dec:List Qp):Prop:=∀ c∈dec,M c.path=some c.place
theorem Hf.snoc {c:Qp} (h:Hf M dec) (hc:M c.path=some c.place):Hf M (dec++[c]):=fun d hd=>by
 rcases List.mem_append.1 hd with hd|hd
 ·exact h d hd
 ·rw[List.mem_singleton.1 hd]
  exact hc
theorem Gz {l:List Qu} (hs:Sol x roots M) (ha:Hf M dec) (hv:Hd x roots l) (he:Jf dec l=true):False:=by
 unfold Jf at he;rw[Bool.and_eq_true] at he
 have:Zv l M=true:=List.all_eq_true.2 fun t ht=>by
  have h1:=List.all_eq_true.1 he.1 t ht;have h2:=List.all_eq_true.1 he.2 t ht
  have e:M t.path=J0 dec t.path:=by
   cases hp:J0 dec t.path with
   |none =>obtain⟨c,hc,e⟩:=Yx.1 h2;unfold J0 at hp;rw[Option.map_eq_none_iff,List.find?_eq_none] at hp;exact absurd (beq_iff_eq.2 e) (hp c hc)
   |some v =>obtain⟨c,hc,e1,e2⟩:=Ve hp;rw[←e1,←e2];exact ha c hc
  unfold Zo at h1 ⊢;rw[e];exact h1
 rw[hv M hs] at this
 cases this
theorem Oj (hx:Vc x roots) (hd:Yl x dec) (hs:Sol x roots M) (ha:Hf M dec) {n:Zi} (hn:n∈Jo roots dec):sat n.q M:=by
 rcases B7 hn with⟨_,h⟩|⟨c,hc,_,_,h⟩
 ·exact hs.root _ h
 ·obtain⟨r,m1,m2,m3,_,m4⟩:=hs.rel _ _ (ha c hc)
  have e:=hx.good.uniq r m1 c (hd.there c hc) m2 m3;subst e;exact m4 _ h
theorem agree_clash (hx:Vc x roots) (hd:Yl x dec) (hs:Sol x roots M) (ha:Hf M dec) {c:Qp} {n:Zi} (hc:c∈x) (hp:done dec c.path=false) (hm:M c.path=some c.place) (h:Yf dec c=some n):False:=by
 obtain⟨h1,h2,h3,d,hdd,e1,e2⟩:=Tw h;have ha2:=ha.snoc hm;have hd2:=hd.snoc hc hp;obtain⟨r,m1,m2,m3,_,m4⟩:=hs.rel _ _ hm;have e:=hx.good.uniq r m1 c hc m2 m3;subst e;obtain⟨v,k1,k2⟩:=m4 _ h3;have hdp:=hx.good.place d (hd2.there d hdd);rw[←e1,ha2 d hdd] at k1;injection k1 with k1;rw[Kv hdp.1 hdp.2,k1,k2] at e2
 cases e2
def Least (x:List Qp) (roots:List Qw) (M:Vs):Prop:=∀ σ,Sol x roots σ→∀ p a,M p=some a→∃ b,σ p=some b∧a≤b
theorem R7 (hx:Vc x roots) (hs:Sol x roots M) (hM:Least x roots M) (hd:Mw x roots dec) (ha:Hf M dec) {rec:Qv→List Qp→Bg} {n0:Zi} {a:Int}
 (hp:done dec (next roots dec).1=false) (hMp:M (next roots dec).1=some a)
 (hE:∀ s c,c∈Zp x (next roots dec).1→Mv x roots s→Ent x roots (dec++[c]) s (rec s (dec++[c])))
 (hV:∀ s dec',(∀ c∈dec',c∈x)→Xa x roots s→Xa x roots (rec s dec').2.2)
 (hF:∀ s dec' d t k s',Mw x roots dec'→rec s dec'=(some (d,t),k,s')→Mw x roots d∧Mm roots d)
 (hP:∀ s c d t k s',rec s (dec++[c])=(some (d,t),k,s')→∃ e,d=dec++[c]++e)
 (hR:∀ s c,c∈Zp x (next roots dec).1→Mw x roots (dec++[c])→Hf M (dec++[c])→Mv x roots s→Xa x roots s→(rec s (dec++[c])).2.2.full=false→∃ d t k s',rec s (dec++[c])=(some (d,t),k,s')∧Hf M d):
 ∀ (cs:List Qp) (s:Qv) (rs:List Nat) (sk:List Ol),(∀ c∈cs,c∈Zp x (next roots dec).1)→cs.Pairwise (fun c d=>c.place<d.place)→(∃ c∈cs,c.place=a)→Mv x roots s→Xa x roots s→
   (J7 x rec dec (next roots dec).1 (next roots dec).2 n0 cs s rs sk).2.2.full=false→∃ d t k s',J7 x rec dec (next roots dec).1 (next roots dec).2 n0 cs s rs sk=(some (d,t),k,s')∧Hf M d
 | [],_,_,_,_,_,h,_,_,_=>by
   obtain⟨c,h,_⟩:=h
   cases h
 | c :: cs, s, rs,sk,hcs,hi,hin,hk,hv,hf=>by
   have hc:=hcs c (List.mem_cons_self ..);obtain⟨hcx,hcp,hcy⟩:=Zt.1 hc;have hpl:=hx.good.place c hcx;have hpc:done dec c.path=false :=(by rw[hcp];exact hp);have hdw:=hd.weak;have hok:=Yc roots dec;obtain⟨hi1,hi2⟩:=List.pairwise_cons.1 hi
   have hin2:c.place≠a→∃ c∈cs,c.place=a:=fun hne=>by
    obtain⟨d,hdd,e⟩:=hin;rcases List.mem_cons.1 hdd with rfl|hdd
    ·exact absurd e hne
    ·exact⟨d,hdd,e⟩
   have hle:c.place≤a:=by
    obtain⟨d,hdd,e⟩:=hin;rcases List.mem_cons.1 hdd with rfl|hdd
    ·omega
    ·have:=hi1 d hdd
     omega
   have hMc:c.place=a→M c.path=some c.place:=fun e=>by rw[hcp,e];exact hMp
   have ih:=fun s2 rs sk (hne:c.place≠a) (k2:Mv x roots s2) (v2:Xa x roots s2)=>R7 (n0:=n0) hx hs hM hd ha hp hMp hE hV hF hP hR cs s2 rs sk (fun c h=>hcs c (List.mem_cons_of_mem _ h)) hi2 (hin2 hne) k2 v2
   have hf1:∀ s2 rs sk,(J7 x rec dec (next roots dec).1 (next roots dec).2 n0 cs s2 rs sk).2.2.full=false→s2.full=false:=fun s2 rs sk h=>by
    cases e:s2.full with
    |false=>rfl
    |true=>exact absurd (Lo (x:=x) rec dec _ _ n0 cs rs sk e) (by rw[h];decide)
   rw[J7] at hf ⊢
   by_cases hsf:s.full=true
   ·rw[if_pos hsf] at hf
    have hf:s.full=false:=hf;rw[hsf] at hf
    cases hf
   ·rw [if_neg hsf] at hf ⊢
    cases h1:(next roots dec).2.find? fun n=>!has n.q.set c.place with
    | some k=>
      rw[h1] at hf;dsimp only at hf ⊢;have fk:=hf1 _ _ _ hf;have hkn:=hok k (List.mem_of_find?_eq_some h1);have hno:=List.find?_some h1;have hh:has k.q.set c.place=false :=(by simpa using hno);refine ih _ _ _ (fun e=>?_) ?_ (Hq hx.good hdw.there hv hkn.1 hkn.2.2) hf
      ·obtain⟨v,k1,k2⟩:=Oj hx hdw hs ha hkn.1
       rw[hkn.2.1,hMp] at k1;injection k1 with k1;rw[Kv hpl.1 hpl.2,e,k1,k2] at hh
       cases hh
      ·rw[Hr] at fk ⊢
       exact(Be hx.good.uniq hk (Eo hx hdw hkn.1 s.der) (Fx k) fk).1
    | none =>
      rw[h1] at hf;dsimp only at hf ⊢
      cases h2:Xk s.der (dec++[c]) with
      | some r=>
        rw[h2] at hf;dsimp only at hf ⊢;obtain⟨e1,e2⟩:=Do h2;have hval:=hv.get e1;have hne:c.place≠a:=fun e=>Gz hs (ha.snoc (hMc e)) hval e2
        by_cases h3:Qn (s.der.getD r []) (next roots dec).1=false
        ·exact(Gz hs ha hval (Yv hpc e2 (by rw[hcp];exact h3))).elim
        ·rw[if_neg h3] at hf ⊢
         exact ih _ _ _ hne hk hv hf
      | none=>
        rw[h2] at hf;dsimp only at hf ⊢
        cases h3:Yf dec c with
        | some n=>
          rw[h3] at hf;dsimp only at hf ⊢;have hne:c.place≠a:=fun e=>agree_clash hx hdw hs ha hcx hpc (hMc e) h3;have hval:=N9 (roots:=roots) hx.good hv hcx hpc h3
          have fk:(infer s n).2.full=false:=by
           by_cases h4:Qn ((infer s n).2.der.getD (infer s n).1 []) (next roots dec).1=false
           ·rw[if_pos h4] at hf
            exact hf
           ·rw[if_neg h4] at hf
            exact hf1 _ _ _ hf
          rw[Hr] at hf fk hval ⊢;obtain⟨a1,a2,a3,a4⟩:=Be hx.good.uniq hk (Tv hx hcx h3 s.der) (Fx n) fk;have e2:=Oa hx hdw hcx hpc h3;rw[←a4] at e2
          by_cases h4:Qn ((add s (Rg n) (nI n)).2.der.getD (add s (Rg n) (nI n)).1 []) (next roots dec).1=false
          ·exact(Gz hs ha (hval.get a3) (Yv hpc e2 (by rw[hcp];exact h4))).elim
          ·rw[if_neg h4] at hf ⊢
           exact ih _ _ _ hne a1 hval hf
        | none =>
          rw[h3] at hf;dsimp only at hf ⊢;have hd2:=hd.snoc hc hpc h1 h3;have hr:=hE s c hc hk;have hval:=hV s (dec++[c]) (fun d h=>(hd2.there d h).1) hv;have hfnd:=hF s (dec++[c]);have hpre:=hP s c;have hrr:=hR s c hc hd2
          cases h4:rec s (dec++[c]) with
          | mk o z=>
            obtain⟨r,s2⟩:=z;rw[h4] at hf hr hval hfnd hpre hrr
            cases o with
            | some dt=>
              obtain⟨d,t⟩:=dt;dsimp only at hf ⊢;have hf:s2.full=false:=hf;refine⟨d,_,_,_,rfl,?_⟩
              by_cases e:c.place=a
              ·obtain⟨d',t',k',s',e1,e2⟩:=hrr (ha.snoc (hMc e)) hk hv hf
               injection e1 with e1 _;injection e1 with e1;injection e1 with e1 _;rw[e1];exact e2
              ·exfalso
               obtain⟨g1,g2⟩:=hfnd d t r s2 hd2 rfl;obtain⟨e3,e4⟩:=hpre d t r s2 rfl;obtain⟨b,b1,b2⟩:=hM _ (sol_of hx.good g1 g2) _ _ hMp;have hcd:c∈d :=(by rw[e4];exact List.mem_append.2 (.inl (List.mem_append.2 (.inr (List.mem_singleton.2 rfl)))));have:=Uu g1.weak hcd;rw[hcp,b1] at this;injection this with this;omega
            | none=>
              dsimp only at hf ⊢
              by_cases h5:s2.full=true
              ·rw[if_pos h5] at hf
               have hf:s2.full=false:=hf;rw[h5] at hf
               cases hf
              ·rw[if_neg h5] at hf ⊢
               have h5:s2.full=false :=(by simpa using h5);obtain⟨a1,a2,a3,a4⟩:=hr rfl h5;have a1:Mv x roots s2:=a1;have a3:r<s2.der.length:=a3;have a4:Jf (dec++[c]) (s2.der.getD r [])=true:=a4;have hval:Xa x roots s2:=hval
               have hne:c.place≠a:=fun e=>by
                obtain⟨d',t',k',s',e1,e2⟩:=hrr (ha.snoc (hMc e)) hk hv h5;injection e1 with e1 _
                cases e1
               by_cases h6:Qn (s2.der.getD r []) (next roots dec).1=false
               ·exact(Gz hs ha (hval.get a3) (Yv hpc a4 (by rw[hcp];exact h6))).elim
               ·rw[if_neg h6] at hf ⊢
                exact ih _ _ _ hne a1 hval hf
def IncX (x:List Qp):Prop:=x.Pairwise fun r r'=>r.path=r'.path→r.place<r'.place
theorem cands_inc (hi:IncX x) (p:Qk):(Zp x p).Pairwise fun c d=>c.place<d.place:=by have h:(Zp x p).Pairwise fun r r'=>r.path=r'.path→r.place<r'.place:=List.Pairwise.filter _ hi;refine List.Pairwise.imp_of_mem (fun {c d} hc hd h=>?_) h;exact h ((Zt.1 hc).2.1.trans (Zt.1 hd).2.1.symm)
theorem Nr (hx:Vc x roots) (hi:IncX x) (hs:Sol x roots M) (hM:Least x roots M):∀(f:Nat) (s:Qv) (dec:List Qp),Mw x roots dec→Hf M dec→Xb x dec<f→Mv x roots s→Xa x roots s→(Za x roots f s dec).2.2.full=false→
 ∃ d t k s',Za x roots f s dec=(some (d,t),k,s')∧Hf M d
 |0,_,_,_,_,h,_,_,_=>absurd h (Nat.not_lt_zero _)
 | f + 1,s,dec,hd,ha,hl,hk,hv,hf=>by
   rw[Za] at hf ⊢;have hok:=Yc roots dec
   cases e:(next roots dec).2 with
   |nil=>exact⟨dec,[],0,s,rfl,ha⟩
   | cons n0 ns=>
     rw[e] at hf;dsimp only at hf ⊢;have hn0:n0∈(next roots dec).2 :=(by rw[e];exact List.mem_cons_self ..);have h0:=hok n0 hn0;have hp:done dec (next roots dec).1=false :=(by rw[←h0.2.1];exact h0.2.2);obtain⟨a,k1,k2⟩:=Oj hx hd.weak hs ha h0.1;rw[h0.2.1] at k1;obtain⟨r,m1,m2,m3,m4,_⟩:=hs.rel _ _ k1;have hop:∀ c∈Zp x (next roots dec).1,Xb x (dec++[c])<f:=fun c hc=>by have ho:=Vg (x:=x) (dec:=dec) (c:=c) (Zt.1 hc).2.1 hp;have hlen:0<(Zp x (next roots dec).1).length:=List.length_pos_of_mem hc;omega
     rw[←e] at hf ⊢
     exact R7 hx hs hM hd ha hp k1 (fun s c hc hk=>Ly hx f s (dec++[c]) (hd.weak.snoc (Zt.1 hc).1 (by rw[(Zt.1 hc).2.1];exact hp)) (hop c hc) hk)
      (fun s dec' hd' hs'=>Np roots hx.good f s dec' hd' hs') (fun s dec' d t k s'=>Xr roots f s dec' d t k s') (fun s c d t k s'=>Lx x roots f s (dec++[c]) d t k s')
      (fun s c hc hd2 ha2 hk2 hv2 hf2=>Nr hx hi hs hM f s (dec++[c]) hd2 ha2 (hop c hc) hk2 hv2 hf2)
      _ s [] [] (fun c hc=>hc) (cands_inc hi _) ⟨r,Zt.2 ⟨m1,m2,m4⟩,m3⟩ hk hv hf
theorem Mw.nil (x:List Qp) (roots:List Qw):Mw x roots []:=⟨fun c h=>(by cases h),List.Pairwise.nil,fun n hn c h=>(by cases h)⟩
end
def Kq (p:Qk):Nat→List Qp→List Nat
 |_,[]=>[]
 |i,r::l=>if r.path==p&&!r.yank then i::Kq p (i+1) l else Kq p (i+1) l
def Fz (s:List Sp):Int:=match Q9 s with
 |[]=>0
 |x::_=>x.1
def plc (x:List Qp) (i:Nat):Int:=match x[i]? with
 |none=>0
 |some r=>r.place
def X6 (x:List Qp) (q:Qw):Option Nat:=(Kq q.path 0 x).find? fun i=>decide (Fz q.set≤plc x i)
inductive Nm (x:List Qp) (roots:List Qw):Nat→Prop
 |root {q:Qw} {i:Nat}:q∈roots→X6 x q=some i→Nm x roots i
 |req {i j:Nat} {r:Qp} {q:Qw}:Nm x roots i→x[i]?=some r→q∈r.reqs→X6 x q=some j→Nm x roots j
def Bh (x:List Qp) (roots:List Qw):Prop:=∃ q,X6 x q=none∧(q∈roots∨∃ i r,Nm x roots i∧x[i]?=some r∧q∈r.reqs)
theorem Bu {p:Qk} {k:Nat}:∀(l:List Qp) (i:Nat),k∈Kq p i l↔∃(j:Nat) (r:Qp),l[j]?=some r∧k=i+j∧r.path=p∧r.yank=false
 |[],i=>by simp[Kq]
 | r :: l,i=>by
   have ih:=Bu (p:=p) (k:=k) l (i+1);have hc:(r.path==p&&!r.yank)=true↔r.path=p∧r.yank=false :=(by simp);rw[Kq];constructor
   ·intro h
    split at h
    ·rename_i hh
     rcases List.mem_cons.1 h with rfl|h
     ·exact⟨0,r,rfl,rfl,hc.1 hh⟩
     ·obtain⟨j,r',h1,h2,h3⟩:=ih.1 h
      exact⟨j+1,r',h1,by omega,h3⟩
    ·obtain⟨j,r',h1,h2,h3⟩:=ih.1 h
     exact⟨j+1,r',h1,by omega,h3⟩
   ·rintro⟨j,r',h1,h2,h3⟩
    cases j with
    |zero =>injection h1 with h1;subst h1;rw[if_pos (hc.2 h3),h2];exact List.mem_cons_self ..
    | succ j=>
      have:=ih.2 ⟨j,r',h1,by omega,h3⟩
      split
      ·exact List.mem_cons_of_mem _ this
      ·exact this
theorem posn_low {p:Qk} {l:List Qp} {i k:Nat} (h:k∈Kq p i l):i≤k:=by obtain⟨j,_,_,h2,_⟩:=(Bu l i).1 h;omega
theorem So {p:Qk}:∀(l:List Qp) (i:Nat),(Kq p i l).Pairwise fun a b=>a<b
 |[],_=>List.Pairwise.nil
 | r::l,i=>by
   rw[Kq]
   split
   ·exact List.pairwise_cons.2 ⟨fun k hk=>posn_low hk,So l (i+1)⟩
   ·exact So l (i+1)
def Ri (x:List Qp):Prop:=x.Pairwise fun a b=>Jr a.path b.path=true∨(a.path=b.path∧a.place<b.place)
theorem Ri.inc {x:List Qp} (h:Ri x):IncX x:=List.Pairwise.imp (fun {a b} hab e=>by
 rcases hab with hab|hab
 ·rw[e,Qs] at hab
  cases hab
 ·exact hab.2) h
theorem Ri.get {x:List Qp} (h:Ri x) {i j:Nat} {r r':Qp} (hi:x[i]?=some r) (hj:x[j]?=some r') (hij:i<j):Jr r.path r'.path=true∨(r.path=r'.path∧r.place<r'.place):=by obtain⟨i1,rfl⟩:=List.getElem?_eq_some_iff.1 hi;obtain⟨j1,rfl⟩:=List.getElem?_eq_some_iff.1 hj;exact List.pairwise_iff_getElem.1 h i j i1 j1 hij
theorem Ri.place {x:List Qp} (h:Ri x) {i j:Nat} {r r':Qp} (hi:x[i]?=some r) (hj:x[j]?=some r') (hp:r.path=r'.path):(i≤j↔r.place≤r'.place):=by
 rcases Nat.lt_trichotomy i j with hl|he|hl
 ·rcases h.get hi hj hl with h1|h1
  ·rw[hp,Qs] at h1
   cases h1
  ·omega
 ·subst he
  rw[hi] at hj;injection hj with hj;subst hj;exact⟨fun _=>Int.le_refl _,fun _=>Nat.le_refl _⟩
 ·rcases h.get hj hi hl with h1|h1
  ·rw[hp,Qs] at h1
   cases h1
  ·omega
theorem Bx {x:List Qp} {q:Qw} {i:Nat} (h:X6 x q=some i):∃ r,x[i]?=some r∧r.path=q.path∧r.yank=false∧Fz q.set≤r.place:=by have h1:=List.mem_of_find?_eq_some h;have h2:=List.find?_some h;obtain⟨j,r,e,k,e1,e2⟩:=(Bu x 0).1 h1;rw[Nat.zero_add] at k;subst k;refine⟨r,e,e1,e2,?_⟩;have h2:=of_decide_eq_true h2;unfold plc at h2;rw[e] at h2;exact h2
theorem find_min:∀ {l:List Nat} {P:Nat→Bool} {k:Nat},l.Pairwise (fun a b=>a<b)→k∈l→P k=true→∃ i,l.find? P=some i∧i≤k
 |[],_,_,_,h,_=>by cases h
 | a :: l,P,k,hs,hk,hp=>by
   obtain⟨h1,h2⟩:=List.pairwise_cons.1 hs;rw[List.find?_cons]
   cases ha:P a with
   | true=>
     refine⟨a,rfl,?_⟩;rcases List.mem_cons.1 hk with rfl|hk
     ·exact Nat.le_refl _
     ·exact Nat.le_of_lt (h1 k hk)
   | false=>
     rcases List.mem_cons.1 hk with rfl|hk
     ·rw[ha] at hp
      cases hp
     ·exact find_min h2 hk hp
theorem old_le {x:List Qp} {q:Qw} {k:Nat} {r:Qp} (hk:x[k]?=some r) (hp:r.path=q.path) (hy:r.yank=false) (hl:Fz q.set≤r.place):∃ i,X6 x q=some i∧i≤k:=by refine find_min (So x 0) ((Bu x 0).2 ⟨k,r,hk,(Nat.zero_add k).symm,hp,hy⟩) ?_;unfold plc;rw[hk];exact decide_eq_true hl
def UpS (q:Qw):Prop:=∃ a,0≤a∧a<1000000∧q.set=[(a,1000000)]
theorem UpS.least {q:Qw} (h:UpS q) {v:Int} (h1:v<1000000):mem q.set v=true↔Fz q.set≤v:=by
 obtain⟨a,a0,a1,e⟩:=h;have hc:Q9 q.set=[(a,1000000)]:=by rw[e];exact Io ⟨a0,a1,Int.le_refl _,trivial⟩
 unfold Fz;rw[hc,e,mem_cons,Gl];simp[h1]
def Bc (a b:Qp):Prop:=∀ q∈a.reqs,∃ p∈b.reqs,p.path=q.path∧∀ v,0≤v→v<1000000→mem p.set v=true→mem q.set v=true
theorem Bc.trans {a b c:Qp} (h:Bc a b) (k:Bc b c):Bc a c:=fun q hq=>by obtain⟨p,hp,e,h1⟩:=h q hq;obtain⟨p',hp',e',h2⟩:=k p hp;exact⟨p',hp',e'.trans e,fun v b0 b1 hm=>h1 v b0 b1 (h2 v b0 b1 hm)⟩
def Jm:List Qp→Bool
 |a::b::l=>((!(a.path==b.path))||a.reqs.all fun q=>b.reqs.any fun p=>p.path==q.path&&Fn p.set q.set)&&Jm (b::l)
 |_=>true
theorem Pp {a b:Qp} {l:List Qp} (h:Jm (a::b::l)=true) (e:a.path=b.path):Bc a b:=fun q hq=>by rw[Jm,Bool.and_eq_true,e,beq_self_eq_true,Bool.not_true,Bool.false_or] at h;obtain⟨p,hp,h2⟩:=List.any_eq_true.1 (List.all_eq_true.1 h.1 q hq);rw[Bool.and_eq_true] at h2;exact⟨p,hp,beq_iff_eq.1 h2.1,(subS_iff _ _).1 h2.2⟩
theorem Pr:∀(l:List Qp) (a b:Qp),Jm (a::l)=true→Ri (a::l)→b∈l→a.path=b.path→Bc a b
 |[],_,_,_,_,h,_=>by cases h
 | c :: l,a,b,hg,hs,hb,e=>by
   obtain⟨h1,h2⟩:=List.pairwise_cons.1 hs;rcases List.mem_cons.1 hb with rfl|hb
   ·exact Pp hg e
   ·have hac:=h1 c (List.mem_cons_self ..)
    have hcb:=(List.pairwise_cons.1 h2).1 b hb;have hg2:Jm (c::l)=true:=by rw[Jm,Bool.and_eq_true] at hg;exact hg.2
    have ec:a.path=c.path:=by
     rcases hac with hac|hac
     ·exfalso
      rcases hcb with hcb|hcb
      ·have:=Je _ _ _ hac hcb
       rw[e,Qs] at this
       cases this
      ·rw[hcb.1,←e,Qs] at hac
       cases hac
     ·exact hac.1
    exact(Pp hg ec).trans (Pr l c b hg2 h2 hb (ec.symm.trans e))
theorem Pq:∀(x:List Qp) (i j:Nat) (r r':Qp),Jm x=true→Ri x→x[i]?=some r→x[j]?=some r'→i<j→r.path=r'.path→Bc r r'
 |[],_,_,_,_,_,_,h,_,_,_=>by cases h
 |a::l,0,j+1,r,r',hg,hs,hi,hj,_,e=>by injection hi with hi;subst hi;exact Pr l a r' hg hs (List.mem_of_getElem? hj) e
 | a::l,i+1,j+1,r,r',hg,hs,hi,hj,h,e=>by
   have hg2:Jm l=true:=by
    cases l with
    |nil=>rfl
    |cons b l =>rw[Jm,Bool.and_eq_true] at hg;exact hg.2
   exact Pq l i j r r' hg2 (List.pairwise_cons.1 hs).2 hi hj (by omega) e
structure Ua (x:List Qp) (roots:List Qw):Prop where
 good:Ml x
 srt:Ri x
 root:∀ q∈roots,UpS q
 reqs:∀ r∈x,∀ q∈r.reqs,UpS q
 grow:Jm x=true
section
variable {x:List Qp} {roots:List Qw}
theorem UpS.full {q:Qw} (h:UpS q):Full q:=by obtain⟨a,a0,a1,e⟩:=h;unfold Full;rw[e];exact⟨⟨a0,a1,Int.le_refl _,trivial⟩,by simp⟩
theorem Ua.index (h:Ua x roots):Vc x roots:=⟨h.good,fun q hq=>(h.root q hq).full,fun r hr q hq=>(h.reqs r hr q hq).full⟩
theorem Nm.there {i:Nat} (h:Nm x roots i):∃ r,x[i]?=some r∧r.yank=false:=by
 cases h with
 |root _ h=>obtain⟨r,h1,_,h2,_⟩:=Bx h;exact⟨r,h1,h2⟩
 |req _ _ _ h=>obtain⟨r,h1,_,h2,_⟩:=Bx h;exact⟨r,h1,h2⟩
theorem Ou (hx:Ua x roots) {σ:Vs} (hs:Sol x roots σ) {q:Qw} (hu:UpS q) (h:sat q σ):∃ i r b,X6 x q=some i∧x[i]?=some r∧r.path=q.path∧σ q.path=some b∧r.place≤b:=by obtain⟨b,h1,h2⟩:=h;obtain⟨c,m1,m2,m3,m4,_⟩:=hs.rel _ _ h1;obtain⟨k,hk,rfl⟩:=List.getElem_of_mem m1;have hk2:x[k]?=some x[k]:=List.getElem?_eq_getElem hk;obtain⟨i,h3,h4⟩:=old_le (q:=q) hk2 m2 m4 (by rw[m3];exact(hu.least (hs.inr _ _ h1).2).1 h2);obtain⟨r,h5,h6,_,_⟩:=Bx h3;exact⟨i,r,b,h3,h5,h6,h1,by rw[←m3];exact(hx.srt.place h5 hk2 (h6.trans m2.symm)).1 h4⟩
theorem Bq (hx:Ua x roots) {σ:Vs} (hs:Sol x roots σ) {i:Nat} {r:Qp} {b:Int} (hi:x[i]?=some r) (hb:σ r.path=some b) (hle:r.place≤b):∀ q∈r.reqs,sat q σ:=fun q hq=>by
 obtain⟨c,m1,m2,m3,_,m5⟩:=hs.rel _ _ hb;obtain⟨k,hk,rfl⟩:=List.getElem_of_mem m1;have hk2:x[k]?=some x[k]:=List.getElem?_eq_getElem hk;have hik:=(hx.srt.place hi hk2 m2.symm).2 (by rw[m3];exact hle);rcases Nat.eq_or_lt_of_le hik with e|hlt
 ·subst e
  rw[hi] at hk2;injection hk2 with hk2;rw[hk2] at hq;exact m5 q hq
 ·obtain⟨p,hp,e,h1⟩:=Pq x i k r x[k] hx.grow hx.srt hi hk2 hlt m2.symm q hq
  obtain⟨v,v1,v2⟩:=m5 p hp;have hv:=hs.inr _ _ v1;exact⟨v,by rw[←e];exact v1,h1 v hv.1 hv.2 v2⟩
theorem Nm.under (hx:Ua x roots) {σ:Vs} (hs:Sol x roots σ) {i:Nat} (h:Nm x roots i):∃ r b,x[i]?=some r∧σ r.path=some b∧r.place≤b:=by
 induction h with
 |@root q i hq ho =>obtain⟨j,r,b,h1,h2,h3,h4,h5⟩:=Ou hx hs (hx.root q hq) (hs.root q hq);rw[ho] at h1;injection h1 with h1;subst h1;exact⟨r,b,h2,by rw[h3];exact h4,h5⟩
 | @req i j r q hi hr hq ho ih=>
   obtain⟨r',b,e1,e2,e3⟩:=ih;rw[hr] at e1;injection e1 with e1;subst e1;have hsat:=Bq hx hs hr e2 e3 q hq
   obtain⟨j',r2,b2,h1,h2,h3,h4,h5⟩:=Ou hx hs (hx.reqs r (List.mem_of_getElem? hr) q hq) hsat
   rw[ho] at h1;injection h1 with h1;subst h1;exact⟨r2,b2,h2,by rw[h3];exact h4,h5⟩
theorem miss_none (hx:Ua x roots) (h:Bh x roots) (σ:Vs) (hs:Sol x roots σ):False:=by
 obtain⟨q,h0,h⟩:=h
 have key:UpS q∧sat q σ:=by
  rcases h with h|⟨i,r,h1,h2,h3⟩
  ·exact⟨hx.root q h,hs.root q h⟩
  ·obtain⟨r',b,e1,e2,e3⟩:=h1.under hx hs
   rw[h2] at e1;injection e1 with e1;subst e1;exact⟨hx.reqs r (List.mem_of_getElem? h2) q h3,Bq hx hs h2 e2 e3 q h3⟩
 obtain⟨i,_,_,h1,_⟩:=Ou hx hs key.1 key.2;rw[h0] at h1
 cases h1
def Top (x:List Qp) (roots:List Qw) (i:Nat):Prop:=Nm x roots i∧∀ j r r',Nm x roots j→x[i]?=some r→x[j]?=some r'→r.path=r'.path→j≤i
structure Ub (x:List Qp) (roots:List Qw) (L:List Nat):Prop where
 inc:L.Pairwise fun a b=>a<b
 elem:∀ i,i∈L↔Top x roots i
def stAt (x:List Qp) (L:List Nat):Vs:=J0 (L.filterMap fun i=>x[i]?)
theorem Yp {L:List Nat} {c:Qp}:c∈L.filterMap (fun i=>x[i]?)↔∃ i∈L,x[i]?=some c:=List.mem_filterMap
theorem top_one {i j:Nat} {r r':Qp} (hi:Top x roots i) (hj:Top x roots j) (h1:x[i]?=some r) (h2:x[j]?=some r') (e:r.path=r'.path):i=j:=
 Nat.le_antisymm (hj.2 i r' r hi.1 h2 h1 e.symm) (hi.2 j r r' hj.1 h1 h2 e)
theorem Ra {L:List Nat} (hc:Ub x roots L):Yl x (L.filterMap fun i=>x[i]?):=by
 refine⟨fun c h=>?_,?_⟩
 ·obtain⟨i,_,h⟩:=Yp.1 h
  exact List.mem_of_getElem? h
 ·refine List.pairwise_filterMap.2 (List.Pairwise.imp_of_mem (fun {a b} ha hb hlt r hr r' hr' e=>?_) hc.inc)
  have:=top_one ((hc.elem a).1 ha) ((hc.elem b).1 hb) hr hr' e;omega
theorem nm_top {i:Nat} {r:Qp} (h:Nm x roots i) (hr:x[i]?=some r):∃ j r',Top x roots j∧x[j]?=some r'∧r'.path=r.path∧i≤j:=by
 have key:∀ n i,x.length-i≤n→Nm x roots i→∀ r,x[i]?=some r→∃ j r',Top x roots j∧x[j]?=some r'∧r'.path=r.path∧i≤j:=by
  intro n
  induction n with
  |zero =>intro i hn h r hr;have:=(List.getElem?_eq_some_iff.1 hr).1;omega
  | succ n ih=>
    intro i hn h r hr
    by_cases hex:∃ j r',Nm x roots j∧x[j]?=some r'∧r.path=r'.path∧i<j
    ·obtain⟨j,r',h1,h2,h3,h4⟩:=hex
     have:=(List.getElem?_eq_some_iff.1 h2).1;obtain⟨k,r2,g1,g2,g3,g4⟩:=ih j (by omega) h1 r' h2;exact⟨k,r2,g1,g2,g3.trans h3.symm,by omega⟩
    ·refine⟨i,r,⟨h,fun j s s' hj h1 h2 e=>?_⟩,hr,rfl,Nat.le_refl _⟩
     rw[hr] at h1;injection h1 with h1;subst h1;exact Nat.not_lt.1 fun hlt=>hex ⟨j,s',hj,h2,e,hlt⟩
 exact key _ i (Nat.le_refl _) h r hr
theorem Ob {L:List Nat} (hc:Ub x roots L) {j:Nat} {r:Qp} (h:Top x roots j) (hr:x[j]?=some r):stAt x L r.path=some r.place:=
 Uu (Ra hc) (Yp.2 ⟨j,(hc.elem j).2 h,hr⟩)
theorem Tx (hx:Ua x roots) {L:List Nat} (hc:Ub x roots L) {q:Qw} {j:Nat} (hu:UpS q) (ho:X6 x q=some j) (hj:Nm x roots j):sat q (stAt x L):=by obtain⟨r,h1,h2,h3,h4⟩:=Bx ho;obtain⟨k,r',g1,g2,g3,g4⟩:=nm_top hj h1;have hle:=(hx.srt.place h1 g2 g3.symm).1 g4;refine⟨r'.place,by rw[←h2,←g3];exact Ob hc g1 g2,?_⟩;exact(hu.least (hx.good.place r' (List.mem_of_getElem? g2)).2).2 (by omega)
theorem chosen_sol (hx:Ua x roots) (hm:¬ Bh x roots) {L:List Nat} (hc:Ub x roots L):Sol x roots (stAt x L):=by
 have nm:∀ q,(q∈roots∨∃ i r,Nm x roots i∧x[i]?=some r∧q∈r.reqs)→∃ j,X6 x q=some j:=fun q h=>by
  cases e:X6 x q with
  |some j=>exact⟨j,rfl⟩
  |none=>exact absurd ⟨q,e,h⟩ hm
 refine⟨Uv hx.good (Ra hc),fun q hq=>?_,fun path p h=>?_⟩
 ·obtain⟨j,e⟩:=nm q (.inl hq)
  exact Tx hx hc (hx.root q hq) e (.root hq e)
 ·obtain⟨c,h1,h2,h3⟩:=Ve h
  obtain⟨i,hi,hr⟩:=Yp.1 h1;have ht:=(hc.elem i).1 hi;obtain⟨r,e1,e2⟩:=ht.1.there;rw[hr] at e1;injection e1 with e1;subst e1;refine⟨c,List.mem_of_getElem? hr,h2,h3,e2,fun q hq=>?_⟩;obtain⟨j,e⟩:=nm q (.inr ⟨i,c,ht.1,hr,hq⟩);exact Tx hx hc (hx.reqs c (List.mem_of_getElem? hr) q hq) e (.req ht.1 hr hq e)
theorem Du (hx:Ua x roots) {L:List Nat} (hc:Ub x roots L):Least x roots (stAt x L):=fun σ hs p a h=>by obtain⟨c,h1,h2,h3⟩:=Ve h;obtain⟨i,hi,hr⟩:=Yp.1 h1;obtain⟨r,b,e1,e2,e3⟩:=((hc.elem i).1 hi).1.under hx hs;rw[hr] at e1;injection e1 with e1;subst e1;exact⟨b,by rw[←h2];exact e2,by rw[←h3];exact e3⟩
theorem Bo:∀ {l m:List Qp},l.Pairwise (fun a b=>Jr a.path b.path=true)→m.Pairwise (fun a b=>Jr a.path b.path=true)→(∀ c,c∈l↔c∈m)→l=m
 |[],[],_,_,_=>rfl
 | [],b::m,_,_,h=>by
   have:=(h b).2 (List.mem_cons_self ..)
   cases this
 | a::l,[],_,_,h=>by
   have:=(h a).1 (List.mem_cons_self ..)
   cases this
 | a :: l,b::m,hl,hm,h=>by
   obtain⟨l1,l2⟩:=List.pairwise_cons.1 hl;obtain⟨m1,m2⟩:=List.pairwise_cons.1 hm
   have e:a=b:=by
    rcases List.mem_cons.1 ((h a).1 (List.mem_cons_self ..)) with e|ha
    ·exact e
    ·rcases List.mem_cons.1 ((h b).2 (List.mem_cons_self ..)) with e|hb
     ·exact e.symm
     ·have:=Je _ _ _ (m1 a ha) (l1 b hb)
      rw[Qs] at this
      cases this
   subst e
   have:l=m:=Bo l2 m2 fun c=>by
    constructor
    ·intro hc
     rcases List.mem_cons.1 ((h c).1 (List.mem_cons_of_mem _ hc)) with rfl|hc2
     ·have:=l1 c hc
      rw[Qs] at this
      cases this
     ·exact hc2
    ·intro hc
     rcases List.mem_cons.1 ((h c).2 (List.mem_cons_of_mem _ hc)) with rfl|hc2
     ·have:=m1 c hc
      rw[Qs] at this
      cases this
     ·exact hc2
   rw[this]
theorem chosen_srt (hx:Ua x roots) {L:List Nat} (hc:Ub x roots L):(L.filterMap fun i=>x[i]?).Pairwise fun a b=>Jr a.path b.path=true:=by
 refine List.pairwise_filterMap.2 (List.Pairwise.imp_of_mem (fun {a b} ha hb hlt r hr r' hr'=>?_) hc.inc);rcases hx.srt.get hr hr' hlt with h|h
 ·exact h
 ·exfalso
  have:=top_one ((hc.elem a).1 ha) ((hc.elem b).1 hb) hr hr' h.1;omega
theorem Uw (hx:Ua x roots) (h16:x.length≤16):
 (Bh x roots→(Za x roots 17 Zl []).1=none)∧
 ∀ L,¬ Bh x roots→Ub x roots L→∃ d t,(Za x roots 17 Zl []).1=some (d,t)∧∀ d',(∀ c,c∈d'↔c∈d)→d'.Pairwise (fun a b=>Jr a.path b.path=true)→d'=L.filterMap fun i=>x[i]?:=by
 have hfull:=Sy roots h16 17;have hfnd:=Xr (x:=x) roots 17 Zl [];have hfu:Xb x []<17:=by have:=Su x [];omega
 constructor
 ·intro hm
  cases hs:Za x roots 17 Zl [] with
  | mk o z=>
    obtain⟨k,s'⟩:=z
    cases o with
    |none=>rfl
    |some dt =>obtain⟨d,t⟩:=dt;obtain⟨h1,h2⟩:=hfnd d t k s' (Mw.nil x roots) hs;exact(miss_none hx hm _ (sol_of hx.good h1 h2)).elim
 ·intro L hm hc
  obtain⟨d,t,k,s',hs,hag⟩:=Nr hx.index hx.srt.inc (chosen_sol hx hm hc) (Du hx hc) 17 Zl [] (Mw.nil x roots) (fun c h=>by cases h) hfu (noSrch_ok x roots) (O5 x roots) hfull;obtain⟨h1,h2⟩:=hfnd d t k s' (Mw.nil x roots) hs;have hsol:=sol_of hx.good h1 h2;refine⟨d,t,by rw[hs],fun d' he hp=>Bo hp (chosen_srt hx hc) fun c=>?_⟩;rw[he,Yp];constructor
  ·intro hcd
   obtain⟨c',g1,g2,g3⟩:=Ve (hag c hcd);obtain⟨i,hi,hr⟩:=Yp.1 g1;have:=hx.good.uniq c' (List.mem_of_getElem? hr) c (h1.there c hcd).1 g2 g3;subst this;exact⟨i,hi,hr⟩
  ·rintro⟨i,hi,hr⟩
   have hM:=Ob hc ((hc.elem i).1 hi) hr;obtain⟨b,b1,b2⟩:=Du hx hc _ hsol _ _ hM;obtain⟨c',g1,g2,g3⟩:=Ve b1;have ha:=hag c' g1;rw[g2,hM] at ha;injection ha with ha;have:=hx.good.uniq c' (h1.there c' g1).1 c (List.mem_of_getElem? hr) g2 ha.symm;rw[←this];exact g1
end
end Go.Proofs.YtiefajiebebgoaaGreatDoor.Tm
namespace Go.Proofs.YtiefajiebebgoaaGreatDoor
set_option linter.unusedVariables false
open Go.RowKit Go.Shelf
attribute [local go_sem] Oper.semAt_some
theorem Vn:∀ a b:Tm.Qk,Op.bytesLess a b=Tm.Jr a b
 |[],[]=>rfl
 |[],_::_=>rfl
 |_::_,[]=>rfl
 | a::s,b::t=>by
   rw[Op.bytesLess,Tm.Jr,Vn s t]
   by_cases h1:a<b
   ·rw[if_pos h1,decide_eq_true h1,Bool.true_or]
   ·rw[if_neg h1,decide_eq_false h1,Bool.false_or]
    by_cases h2:a=b
    ·rw[if_pos h2,beq_iff_eq.2 h2,Bool.true_and]
    ·rw[if_neg h2,beq_eq_false_iff_ne.2 h2,Bool.false_and]
theorem Q7 (a:Tm.Qk):(⟨a.toArray⟩:ByteArray).toList=a:=by rw[Lib.toList_data]
def E5 (a b:Tm.Qk):Int:=if Tm.Jr a b=true then -1 else if Tm.Jr b a=true then 1 else 0
def Rh (a b:Int):Int:=if a<b then -1 else if b<a then 1 else 0
theorem ltS_asymm {a b:Tm.Qk} (h:Tm.Jr a b=true):Tm.Jr b a=false:=by
 cases e:Tm.Jr b a with
 |false=>rfl
 | true=>
   have:=Tm.Je _ _ _ h e;rw[Tm.Qs] at this
   cases this
theorem gtr_str (a b:Tm.Qk):(!(Tm.Jr a b||a==b))=Tm.Jr b a:=by
 cases h1:Tm.Jr a b with
 |true=>rw[ltS_asymm h1];rfl
 | false=>
   cases h2:Tm.Jr b a with
   | true=>
     have:(a==b)=false:=beq_eq_false_iff_ne.2 fun e=>by rw[e,Tm.Qs] at h2;cases h2
     rw[this];rfl
   |false=>rw[Tm.Vp _ _ h1 h2,beq_self_eq_true];rfl
theorem Pf (a:Tm.Qk) (w:World):Calls prog 135 #[.string ⟨a.toArray⟩] w fun e w'=>e=.returned (.bool false)∧w'=w:=by go_enter func135,ntmps135;go_wp2;go_ret;exact⟨by simp,rfl⟩
theorem Pg (a:Int) (w:World):Calls prog 196 #[.int .i64 a] w fun e w'=>e=.returned (.bool false)∧w'=w:=by go_enter func196,ntmps196;go_wp2;go_ret;exact⟨by simp,rfl⟩
theorem cmpS_spec (a b:Tm.Qk) (w:World):Calls prog 83 #[.string ⟨a.toArray⟩,.string ⟨b.toArray⟩] w fun e w'=>e=.returned (.int .i64 (E5 a b))∧w'=w:=by
 have k1:=Pf a w;have k2:=Pf b w;have h1:Op.bytesLess (⟨a.toArray⟩:ByteArray).toList (⟨b.toArray⟩:ByteArray).toList=Tm.Jr a b:=by rw[Q7,Q7,Vn]
 have h2:(!(Op.bytesLess (⟨a.toArray⟩:ByteArray).toList (⟨b.toArray⟩:ByteArray).toList||(⟨a.toArray⟩:ByteArray).toList==(⟨b.toArray⟩:ByteArray).toList))=Tm.Jr b a:=by rw[h1,Q7,Q7,gtr_str]
 unfold E5;generalize Tm.Jr a b=x at h1 h2 ⊢;generalize Tm.Jr b a=y at h2 ⊢;generalize (⟨a.toArray⟩:ByteArray)=ba at h1 h2 k1 k2 ⊢;generalize (⟨b.toArray⟩:ByteArray)=bb at h1 h2 k1 k2 ⊢;rw[h1] at h2
 cases x with
 |true =>rw[if_pos rfl];clear h2;go_enter func83,ntmps83;go_wp2_with fail;refine k1.mono ?_;rintro e w1 ⟨rfl,rfl⟩;clear k1;go_wp2_with fail;refine k2.mono ?_;rintro e w1 ⟨rfl,rfl⟩;clear k2;go_wp2;go_ret;exact⟨rfl,rfl⟩
 | false=>
   rw[if_neg (by decide)];rw[Bool.false_or] at h2
   cases y with
   |true =>rw[if_pos rfl];have h3:(ba.toList==bb.toList)=false :=(by simpa using h2);clear h2;go_enter func83,ntmps83;go_wp2_with fail;refine k1.mono ?_;rintro e w1 ⟨rfl,rfl⟩;clear k1;go_wp2_with fail;refine k2.mono ?_;rintro e w1 ⟨rfl,rfl⟩;clear k2;go_wp2;go_ret;exact⟨rfl,rfl⟩
   |false =>rw[if_neg (by decide)];have h3:(ba.toList==bb.toList)=true :=(by simpa using h2);clear h2;go_enter func83,ntmps83;go_wp2_with fail;refine k1.mono ?_;rintro e w1 ⟨rfl,rfl⟩;clear k1;go_wp2_with fail;refine k2.mono ?_;rintro e w1 ⟨rfl,rfl⟩;clear k2;go_wp2;go_ret;exact⟨rfl,rfl⟩
theorem E6 (a b:Int) (w:World):Calls prog 136 #[.int .i64 a,.int .i64 b] w fun e w'=>e=.returned (.int .i64 (Rh a b))∧w'=w:=by
 have k1:=Pg a w;have k2:=Pg b w;obtain⟨r,hr⟩:∃ r,Rh a b=r:=⟨_,rfl⟩;rw[hr];unfold Rh at hr
 by_cases h1:a<b
 ·rw[if_pos h1] at hr
  subst hr;go_enter func136,ntmps136;go_wp2_with fail;refine k1.mono ?_;rintro e w1 ⟨rfl,rfl⟩;clear k1;go_wp2_with fail;refine k2.mono ?_;rintro e w1 ⟨rfl,rfl⟩;clear k2;go_wp2;go_ret;exact⟨rfl,rfl⟩
 ·rw[if_neg h1] at hr
  by_cases h2:b<a
  ·rw[if_pos h2] at hr
   subst hr;go_enter func136,ntmps136;go_wp2_with fail;refine k1.mono ?_;rintro e w1 ⟨rfl,rfl⟩;clear k1;go_wp2_with fail;refine k2.mono ?_;rintro e w1 ⟨rfl,rfl⟩;clear k2;go_wp2;go_ret;exact⟨rfl,rfl⟩
  ·rw[if_neg h2] at hr
   subst hr;go_enter func136,ntmps136;go_wp2_with fail;refine k1.mono ?_;rintro e w1 ⟨rfl,rfl⟩;clear k1;go_wp2_with fail;refine k2.mono ?_;rintro e w1 ⟨rfl,rfl⟩;clear k2;go_wp2;go_ret;exact⟨rfl,rfl⟩
end Go.Proofs.YtiefajiebebgoaaGreatDoor
namespace Go.Proofs
open Go.Shelf
def Tryz.pdqSp_ren:Go.Shelf.Ren:=⟨fun|14=>197|20=>242|21=>243|22=>244|23=>245|24=>246|25=>247|26=>248|27=>249|46=>272|47=>210|48=>211|49=>273|50=>274|15=>104|57=>291|28=>162|29=>163|n=>n,fun|24=>79|22=>40|3=>3|25=>232|4=>4|0=>0|46=>255|45=>254|50=>112|66=>311|39=>196|55=>263|70=>315|76=>346|77=>347|53=>261|5=>5|9=>9|n=>n,fun|n=>n⟩
theorem Tryz.pdqSp:Go.Proofs.SlLaysF0.n14 prog Tryz.pdqSp_ren:={
 mixed:=by kernel_rfl
 f14:=⟨Tryz.f197.name,by decide,func197.trans (congrArg some (by kernel_rfl))⟩
 f15:=func104.trans (congrArg some (by kernel_rfl))
 f20:=⟨Tryz.f242.name,by decide,func242.trans (congrArg some (by kernel_rfl))⟩
 f21:=⟨Tryz.f243.name,by decide,func243.trans (congrArg some (by kernel_rfl))⟩
 f22:=⟨Tryz.f244.name,by decide,func244.trans (congrArg some (by kernel_rfl))⟩
 f23:=⟨Tryz.f245.name,by decide,func245.trans (congrArg some (by kernel_rfl))⟩
 f24:=⟨Tryz.f246.name,by decide,func246.trans (congrArg some (by kernel_rfl))⟩
 f25:=⟨Tryz.f247.name,by decide,func247.trans (congrArg some (by kernel_rfl))⟩
 f26:=⟨Tryz.f248.name,by decide,func248.trans (congrArg some (by kernel_rfl))⟩
 f27:=⟨Tryz.f249.name,by decide,func249.trans (congrArg some (by kernel_rfl))⟩
 f28:=func162.trans (congrArg some (by kernel_rfl))
 f29:=func163.trans (congrArg some (by kernel_rfl))
 f46:=⟨Tryz.f272.name,by decide,func272.trans (congrArg some (by kernel_rfl))⟩
 f47:=func210.trans (congrArg some (by kernel_rfl))
 f48:=func211.trans (congrArg some (by kernel_rfl))
 f49:=⟨Tryz.f273.name,by decide,func273.trans (congrArg some (by kernel_rfl))⟩
 f50:=⟨Tryz.f274.name,by decide,func274.trans (congrArg some (by kernel_rfl))⟩
 f57:=⟨Tryz.f291.name,by decide,func291.trans (congrArg some (by kernel_rfl))⟩
 t0:=underlying0
 a0:=Tryz.isAgg0
 z0:=Tryz.sizeOf0
 v0:=Tryz.zeroValue0
 t3:=underlying3
 a3:=Tryz.isAgg3
 z3:=Tryz.sizeOf3
 v3:=Tryz.zeroValue3
 t4:=underlying4
 a4:=Tryz.isAgg4
 z4:=Tryz.sizeOf4
 v4:=Tryz.zeroValue4
 t5:=underlying5
 a5:=Tryz.isAgg5
 z5:=Tryz.sizeOf5
 v5:=Tryz.zeroValue5
 t9:=underlying9
 a9:=Tryz.isAgg9
 z9:=Tryz.sizeOf9
 v9:=Tryz.zeroValue9
 t22:=underlying40
 a22:=Tryz.isAgg40
 z22:=Tryz.sizeOf40
 v22:=Tryz.zeroValue40
 t25:=underlying232
 a25:=Tryz.isAgg232
 z25:=Tryz.sizeOf232
 v25:=Tryz.zeroValue232
 t39:=underlying196
 a39:=Tryz.isAgg196
 z39:=Tryz.sizeOf196
 v39:=Tryz.zeroValue196
 t45:=underlying254
 a45:=Tryz.isAgg254
 z45:=Tryz.sizeOf254
 v45:=Tryz.zeroValue254
 t46:=underlying255
 a46:=Tryz.isAgg255
 z46:=Tryz.sizeOf255
 v46:=Tryz.zeroValue255
 t50:=underlying112
 a50:=Tryz.isAgg112
 z50:=Tryz.sizeOf112
 v50:=Tryz.zeroValue112
 t53:=underlying261
 a53:=Tryz.isAgg261
 z53:=Tryz.sizeOf261
 v53:=Tryz.zeroValue261
 t55:=underlying263
 a55:=Tryz.isAgg263
 z55:=Tryz.sizeOf263
 v55:=Tryz.zeroValue263
 t66:=underlying311
 a66:=Tryz.isAgg311
 z66:=Tryz.sizeOf311
 v66:=Tryz.zeroValue311
 t70:=underlying315
 a70:=Tryz.isAgg315
 z70:=Tryz.sizeOf315
 v70:=Tryz.zeroValue315
 t76:=underlying346
 a76:=Tryz.isAgg346
 z76:=Tryz.sizeOf346
 v76:=Tryz.zeroValue346
 t77:=underlying347
 a77:=Tryz.isAgg347
 z77:=Tryz.sizeOf347
 v77:=Tryz.zeroValue347 }
def Tryz.sortSe_ren:Go.Shelf.Ren:=⟨fun|6=>59|15=>104|14=>103|28=>162|29=>163|20=>154|21=>155|22=>156|23=>157|24=>158|25=>159|26=>160|27=>161|46=>209|47=>210|48=>211|49=>212|50=>213|57=>261|n=>n,fun|22=>30|24=>38|25=>125|3=>3|39=>196|0=>0|53=>261|55=>263|4=>4|46=>255|45=>254|50=>112|5=>5|9=>9|66=>311|70=>315|76=>346|77=>347|n=>n,fun|n=>n⟩
theorem Tryz.sortSe:Go.Proofs.SlLaysF0.n6 prog Tryz.sortSe_ren:={
 mixed:=by kernel_rfl
 f6:=⟨Tryz.f59.name,by decide,func59.trans (congrArg some (by kernel_rfl))⟩
 f14:=⟨Tryz.f103.name,by decide,func103.trans (congrArg some (by kernel_rfl))⟩
 f15:=func104.trans (congrArg some (by kernel_rfl))
 f20:=⟨Tryz.f154.name,by decide,func154.trans (congrArg some (by kernel_rfl))⟩
 f21:=⟨Tryz.f155.name,by decide,func155.trans (congrArg some (by kernel_rfl))⟩
 f22:=⟨Tryz.f156.name,by decide,func156.trans (congrArg some (by kernel_rfl))⟩
 f23:=⟨Tryz.f157.name,by decide,func157.trans (congrArg some (by kernel_rfl))⟩
 f24:=⟨Tryz.f158.name,by decide,func158.trans (congrArg some (by kernel_rfl))⟩
 f25:=⟨Tryz.f159.name,by decide,func159.trans (congrArg some (by kernel_rfl))⟩
 f26:=⟨Tryz.f160.name,by decide,func160.trans (congrArg some (by kernel_rfl))⟩
 f27:=⟨Tryz.f161.name,by decide,func161.trans (congrArg some (by kernel_rfl))⟩
 f28:=func162.trans (congrArg some (by kernel_rfl))
 f29:=func163.trans (congrArg some (by kernel_rfl))
 f46:=⟨Tryz.f209.name,by decide,func209.trans (congrArg some (by kernel_rfl))⟩
 f47:=func210.trans (congrArg some (by kernel_rfl))
 f48:=func211.trans (congrArg some (by kernel_rfl))
 f49:=⟨Tryz.f212.name,by decide,func212.trans (congrArg some (by kernel_rfl))⟩
 f50:=⟨Tryz.f213.name,by decide,func213.trans (congrArg some (by kernel_rfl))⟩
 f57:=⟨Tryz.f261.name,by decide,func261.trans (congrArg some (by kernel_rfl))⟩
 t0:=underlying0
 a0:=Tryz.isAgg0
 z0:=Tryz.sizeOf0
 v0:=Tryz.zeroValue0
 t3:=underlying3
 a3:=Tryz.isAgg3
 z3:=Tryz.sizeOf3
 v3:=Tryz.zeroValue3
 t4:=underlying4
 a4:=Tryz.isAgg4
 z4:=Tryz.sizeOf4
 v4:=Tryz.zeroValue4
 t5:=underlying5
 a5:=Tryz.isAgg5
 z5:=Tryz.sizeOf5
 v5:=Tryz.zeroValue5
 t9:=underlying9
 a9:=Tryz.isAgg9
 z9:=Tryz.sizeOf9
 v9:=Tryz.zeroValue9
 t22:=underlying30
 a22:=Tryz.isAgg30
 z22:=Tryz.sizeOf30
 v22:=Tryz.zeroValue30
 t25:=underlying125
 a25:=Tryz.isAgg125
 z25:=Tryz.sizeOf125
 v25:=Tryz.zeroValue125
 t39:=underlying196
 a39:=Tryz.isAgg196
 z39:=Tryz.sizeOf196
 v39:=Tryz.zeroValue196
 t45:=underlying254
 a45:=Tryz.isAgg254
 z45:=Tryz.sizeOf254
 v45:=Tryz.zeroValue254
 t46:=underlying255
 a46:=Tryz.isAgg255
 z46:=Tryz.sizeOf255
 v46:=Tryz.zeroValue255
 t50:=underlying112
 a50:=Tryz.isAgg112
 z50:=Tryz.sizeOf112
 v50:=Tryz.zeroValue112
 t53:=underlying261
 a53:=Tryz.isAgg261
 z53:=Tryz.sizeOf261
 v53:=Tryz.zeroValue261
 t55:=underlying263
 a55:=Tryz.isAgg263
 z55:=Tryz.sizeOf263
 v55:=Tryz.zeroValue263
 t66:=underlying311
 a66:=Tryz.isAgg311
 z66:=Tryz.sizeOf311
 v66:=Tryz.zeroValue311
 t70:=underlying315
 a70:=Tryz.isAgg315
 z70:=Tryz.sizeOf315
 v70:=Tryz.zeroValue315
 t76:=underlying346
 a76:=Tryz.isAgg346
 z76:=Tryz.sizeOf346
 v76:=Tryz.zeroValue346
 t77:=underlying347
 a77:=Tryz.isAgg347
 z77:=Tryz.sizeOf347
 v77:=Tryz.zeroValue347 }
def Tryz.pdqTm_ren:Go.Shelf.Ren:=⟨fun|14=>275|20=>292|21=>293|22=>294|23=>295|24=>296|25=>297|26=>298|27=>299|46=>308|47=>210|48=>211|49=>309|50=>310|15=>104|57=>314|28=>162|29=>163|n=>n,fun|24=>248|22=>191|3=>3|25=>345|4=>4|0=>0|46=>255|45=>254|50=>112|66=>311|39=>196|55=>263|70=>315|76=>346|77=>347|53=>261|5=>5|9=>9|n=>n,fun|n=>n⟩
theorem Tryz.pdqTm:Go.Proofs.SlLaysF0.n14 prog Tryz.pdqTm_ren:={
 mixed:=by kernel_rfl
 f14:=⟨Tryz.f275.name,by decide,func275.trans (congrArg some (by kernel_rfl))⟩
 f15:=func104.trans (congrArg some (by kernel_rfl))
 f20:=⟨Tryz.f292.name,by decide,func292.trans (congrArg some (by kernel_rfl))⟩
 f21:=⟨Tryz.f293.name,by decide,func293.trans (congrArg some (by kernel_rfl))⟩
 f22:=⟨Tryz.f294.name,by decide,func294.trans (congrArg some (by kernel_rfl))⟩
 f23:=⟨Tryz.f295.name,by decide,func295.trans (congrArg some (by kernel_rfl))⟩
 f24:=⟨Tryz.f296.name,by decide,func296.trans (congrArg some (by kernel_rfl))⟩
 f25:=⟨Tryz.f297.name,by decide,func297.trans (congrArg some (by kernel_rfl))⟩
 f26:=⟨Tryz.f298.name,by decide,func298.trans (congrArg some (by kernel_rfl))⟩
 f27:=⟨Tryz.f299.name,by decide,func299.trans (congrArg some (by kernel_rfl))⟩
 f28:=func162.trans (congrArg some (by kernel_rfl))
 f29:=func163.trans (congrArg some (by kernel_rfl))
 f46:=⟨Tryz.f308.name,by decide,func308.trans (congrArg some (by kernel_rfl))⟩
 f47:=func210.trans (congrArg some (by kernel_rfl))
 f48:=func211.trans (congrArg some (by kernel_rfl))
 f49:=⟨Tryz.f309.name,by decide,func309.trans (congrArg some (by kernel_rfl))⟩
 f50:=⟨Tryz.f310.name,by decide,func310.trans (congrArg some (by kernel_rfl))⟩
 f57:=⟨Tryz.f314.name,by decide,func314.trans (congrArg some (by kernel_rfl))⟩
 t0:=underlying0
 a0:=Tryz.isAgg0
 z0:=Tryz.sizeOf0
 v0:=Tryz.zeroValue0
 t3:=underlying3
 a3:=Tryz.isAgg3
 z3:=Tryz.sizeOf3
 v3:=Tryz.zeroValue3
 t4:=underlying4
 a4:=Tryz.isAgg4
 z4:=Tryz.sizeOf4
 v4:=Tryz.zeroValue4
 t5:=underlying5
 a5:=Tryz.isAgg5
 z5:=Tryz.sizeOf5
 v5:=Tryz.zeroValue5
 t9:=underlying9
 a9:=Tryz.isAgg9
 z9:=Tryz.sizeOf9
 v9:=Tryz.zeroValue9
 t22:=underlying191
 a22:=Tryz.isAgg191
 z22:=Tryz.sizeOf191
 v22:=Tryz.zeroValue191
 t25:=underlying345
 a25:=Tryz.isAgg345
 z25:=Tryz.sizeOf345
 v25:=Tryz.zeroValue345
 t39:=underlying196
 a39:=Tryz.isAgg196
 z39:=Tryz.sizeOf196
 v39:=Tryz.zeroValue196
 t45:=underlying254
 a45:=Tryz.isAgg254
 z45:=Tryz.sizeOf254
 v45:=Tryz.zeroValue254
 t46:=underlying255
 a46:=Tryz.isAgg255
 z46:=Tryz.sizeOf255
 v46:=Tryz.zeroValue255
 t50:=underlying112
 a50:=Tryz.isAgg112
 z50:=Tryz.sizeOf112
 v50:=Tryz.zeroValue112
 t53:=underlying261
 a53:=Tryz.isAgg261
 z53:=Tryz.sizeOf261
 v53:=Tryz.zeroValue261
 t55:=underlying263
 a55:=Tryz.isAgg263
 z55:=Tryz.sizeOf263
 v55:=Tryz.zeroValue263
 t66:=underlying311
 a66:=Tryz.isAgg311
 z66:=Tryz.sizeOf311
 v66:=Tryz.zeroValue311
 t70:=underlying315
 a70:=Tryz.isAgg315
 z70:=Tryz.sizeOf315
 v70:=Tryz.zeroValue315
 t76:=underlying346
 a76:=Tryz.isAgg346
 z76:=Tryz.sizeOf346
 v76:=Tryz.zeroValue346
 t77:=underlying347
 a77:=Tryz.isAgg347
 z77:=Tryz.sizeOf347
 v77:=Tryz.zeroValue347 }
def Tryz.bitsLen_ren:Go.Shelf.Ren:=⟨fun|125=>104|128=>162|129=>163|n=>n,fun|46=>196|3=>3|51=>261|53=>263|4=>4|5=>5|9=>9|n=>n,fun|n=>n⟩
theorem Tryz.bitsLen:Go.Proofs.Lays.n125 prog Tryz.bitsLen_ren:={
 mixed:=by kernel_rfl
 f125:=func104.trans (congrArg some (by kernel_rfl))
 f128:=func162.trans (congrArg some (by kernel_rfl))
 f129:=func163.trans (congrArg some (by kernel_rfl))
 t3:=underlying3
 a3:=Tryz.isAgg3
 z3:=Tryz.sizeOf3
 v3:=Tryz.zeroValue3
 t4:=underlying4
 a4:=Tryz.isAgg4
 z4:=Tryz.sizeOf4
 v4:=Tryz.zeroValue4
 t5:=underlying5
 a5:=Tryz.isAgg5
 z5:=Tryz.sizeOf5
 v5:=Tryz.zeroValue5
 t9:=underlying9
 a9:=Tryz.isAgg9
 z9:=Tryz.sizeOf9
 v9:=Tryz.zeroValue9
 t46:=underlying196
 a46:=Tryz.isAgg196
 z46:=Tryz.sizeOf196
 v46:=Tryz.zeroValue196
 t51:=underlying261
 a51:=Tryz.isAgg261
 z51:=Tryz.sizeOf261
 v51:=Tryz.zeroValue261
 t53:=underlying263
 a53:=Tryz.isAgg263
 z53:=Tryz.sizeOf263
 v53:=Tryz.zeroValue263 }
end Go.Proofs
namespace Go.Proofs.YtiefajiebebgoaaGreatDoor
set_option linter.unusedVariables false
open Go.ChangeShapes hiding strs
open Go.WideShapes Go.ChangeAt Go.RowKit
theorem own_knob:ownKnob prog.godebug=none:=by kernel_rfl
theorem laid_out:laidOutB prog=true:=by kernel_rfl
theorem Fk {H:Type} {enc:TypeId×Value→H} {P:Program} (hl:laidOutB P=true) {W W':World} (hb:Below W.heap.size W W'):
 ∀ {ts:List TypeId} {vs:List Value} {ds:List (DataW H)} {ps:List MemPlace},(∀ t∈ts,P.readableRec t=true∧t<P.types.size)→
   DataW.TrodAll enc P W 0 (fun _=>true) true ts vs ds ps→DataW.TrodAll enc P W' 0 (fun b=>decide (b<W.heap.size)) true ts vs ds ps
 |[],[],[],_,_,h=>h
 |[],[],_::_,_,_,h=>h.elim
 |[],_::_,_,_,_,h=>h.elim
 |_::_,[],_,_,_,h=>h.elim
 |_::_,_::_,[],_,_,h=>h.elim
 |t::ts,v::vs,d::ds,ps,hr,h=>by obtain⟨p,q,h1,h2,rfl⟩:=h;have hlt:∀ x∈p,x.block<W.heap.size :=(by obtain⟨m,hm⟩:=h1;exact DataW.trod_lt m _ _ _ hm);exact⟨p,q,Below.trod hl (hr t (by simp)).1 (hr t (by simp)).2 h1 hb hlt,Fk hl hb (fun t' ht'=>hr t' (by simp[ht'])) h2,rfl⟩
theorem law_post {H:Type} {enc:TypeId×Value→H} {P:Program} {f:Func} {s:ChangeSpec} {W W':World} {args:Array Value} {ds gs:List (DataW H)} {before:List MemPlace} {tb:TypeId}
 (hl:laidOutB P=true) (hr':(f.params.toList.all fun t=>P.readableRec t&&decide (t<P.types.size))=true) (hrt:f.resultTypes=#[tb]) (htb:P.underlying tb=some .bool)
 (hv:s.vars=[]) (hW:DataW.Whole enc P f.params.toList s.vars false W args.toList ds gs before)
 (h1:(s.fn H (ds++gs)).results=[.lit (.bool true)]) (h2:(s.fn H (ds++gs)).args=ds) (h3:(s.fn H (ds++gs)).vars=[]) (hb:Below W.heap.size W W'):
 s.post enc P f false true false false W args (.bool true) W':=by
 have hr:∀ t∈f.params.toList,P.readableRec t=true∧t<P.types.size:=fun t ht=>by simpa using List.all_eq_true.1 hr' t ht
 have hW':=hW;obtain⟨p,q,hA,hV,rfl,hfz,hnd⟩:=hW;refine⟨ds,gs,_,[],p,[],hW',?_,?_,?_,hb.frame _,fun h=>by cases h⟩
 ·rw[hrt,h1]
  exact trodAll_cons_mk (shut_bool htb true) trodAll_mk0
 ·rw[h2]
  exact Fk hl hb hr hA
 ·rw[h3,hv]
  rfl
end Go.Proofs.YtiefajiebebgoaaGreatDoor
