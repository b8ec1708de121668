/-
  slices.IndexFunc and slices.ContainsFunc G1 structs,with whatever predicate that leaves what lies there. Conditions: none.
-/
import Derived.Test.YtiefajiebebgoaaGreatDoorQHd
import Derived.Test.YtiefajiebebgoaaGreatDoorQPa
import Derived.Test.YtiefajiebebgoaaGreatDoorChecked
import Derived.Shelf.Abstract
import Derived.Shelf.RegionOpen
set_option maxRecDepth 20000
set_option maxHeartbeats 4000000
open Go.Proofs.Tryz
namespace Go.Proofs.YtiefajiebebgoaaGreatDoor
set_option linter.unusedVariables false
open Go.RowKit Go.Shelf
attribute [local go_sem] Oper.semAt_some
def IxP (p:Nat→Bool) (N:Nat) (j:Int):Prop:=(j = -1∧∀ i,i<N→p i=false)∨∃ i:Nat,i<N∧j=(i:Int)∧p i=true∧∀ k,k<i→p k=false
def Hh (p:Nat→Bool) (N:Nat) (b:Bool):Prop:=b=true↔∃ i,i<N∧p i=true
theorem IxP.any {p:Nat→Bool} {N:Nat} {j:Int} (h:IxP p N j):Hh p N (decide (j≥0)):=by
 unfold Hh;rw[decide_eq_true_eq];rcases h with⟨rfl,h⟩|⟨i,h1,rfl,h2,_⟩
 ·constructor
  ·intro h0
   omega
  ·rintro⟨i,h1,h2⟩
   rw[h i h1] at h2
   cases h2
 ·exact⟨fun _=>⟨i,h1,h2⟩,fun _=>by omega⟩
theorem Hh.list {α:Type} {L:List α} {q:α→Bool} {b:Bool} {p:Nat→Bool} (h:Hh p L.length b) (hp:∀ j (hj:j<L.length),p j=q L[j]):b=L.any q:=by
 unfold Hh at h;rw[Bool.eq_iff_iff,h,List.any_eq_true];constructor
 ·rintro⟨i,h1,h2⟩
  exact⟨L[i],List.getElem_mem h1,by rw[←hp i h1];exact h2⟩
 ·rintro⟨x,hx,h2⟩
  obtain⟨i,h1,rfl⟩:=List.getElem_of_mem hx;exact⟨i,h1,by rw[hp i h1];exact h2⟩
theorem IxP.find {α:Type} {L:List α} {q:α→Bool} {j:Int} {p:Nat→Bool} (h:IxP p L.length j) (hp:∀ j (hj:j<L.length),p j=q L[j]):(j = -1∧L.find? q=none)∨∃ i:Nat,∃ hi:i<L.length,j=(i:Int)∧L.find? q=some L[i]∧L.findIdx? q=some i:=by
 rcases h with⟨rfl,h⟩|⟨i,h1,rfl,h2,h3⟩
 ·left
  refine⟨rfl,List.find?_eq_none.2 fun x hx=>?_⟩;obtain⟨i,h1,rfl⟩:=List.getElem_of_mem hx;rw[←hp i h1,h i h1];decide
 ·right
  refine⟨i,h1,rfl,?_,?_⟩
  ·rw[List.find?_eq_some_iff_getElem]
   exact⟨by rw[←hp i h1];exact h2,i,h1,rfl,fun k hk=>by rw[←hp k (by omega),h3 k hk];rfl⟩
  ·rw[List.findIdx?_eq_some_iff_getElem]
   exact⟨h1,by rw[←hp i h1];exact h2,fun k hk=>by rw[←hp k (by omega),h3 k hk];decide⟩
theorem Ze {w W:World} {B:Nat} (h:Below B w W) {p:Addr} (hp:p.block<B):W.cell? p=w.cell? p:=h.cell hp
theorem Q0 {w W W':World} (h:Below w.heap.size w W) (k:Below W.heap.size W W'):Below w.heap.size w W':=h.trans (k.mono h.size)
theorem ixSp_spec (f:Nat) (lb:Array Value) (he:∀ args w,(callFunc f args).run prog w=.ok (.enter f args) w) (A:Option Addr) (N c:Nat) (v0 v1:Nat→Value) (p:Nat→Bool) (w:World) (hm:N≤maxLen)
 (hc:∀ j,j<N→∃ b off,A=some ⟨b,off,none⟩∧b<w.heap.size∧w.cell? ⟨b,off+j*2,none⟩=some (v0 j)∧w.cell? ⟨b,off+j*2+1,none⟩=some (v1 j))
 (kf:∀ j W,j<N→Below w.heap.size w W→Calls prog f (#[.agg #[v0 j,v1 j]]++lb) W fun e w'=>e=.returned (.bool (p j))∧Below W.heap.size W w'):
 Calls prog 202 #[.slice A N c,.func (.func f) #[] lb] w fun e w'=>∃ j:Int,e=.returned (.int .i64 j)∧Below w.heap.size w w'∧IxP p N j:=by
 have hm':N≤9223372036854775807:=Nat.le_trans hm (by decide);have HC:=Kd hc;have KF:=Kd kf;clear hc kf;go_enter func202,ntmps202;go_wp2
 go_loopw [8] (fun i wr=>∃(k:Nat),k≤N∧i=.int .i64 k∧Hid (∀ j,j<k→p j=false)∧Hid (Below w.heap.size w wr)) (fun i _=>N-(intOf i).toNat)
 case atStart=>exact⟨0,Nat.zero_le _,rfl,Kd (fun j hj=>absurd hj (Nat.not_lt_zero _)),Kd (Below.refl _ _)⟩
 case round=>
  obtain⟨k,hk,rfl,hp,hb⟩:=hrel
  by_cases hlt:k<N
  ·obtain⟨b,off,rfl,hbl,c0,c1⟩:=HC.out k hlt
   have kx:=KF.out k wr hlt hb.out;rw[←Ze hb.out (p:=⟨b,off+k*2,none⟩) hbl] at c0;rw[←Ze hb.out (p:=⟨b,off+k*2+1,none⟩) hbl] at c1;generalize hq:p k=q at kx;have HQ:=Kd hq;have KL:=Kd hlt;have i0:(0:Int)≤(k:Int):=Int.natCast_nonneg _;have i1:(k:Int)<(N:Int):=Int.ofNat_lt.2 hlt;generalize v0 k=x0 at kx c0;generalize v1 k=x1 at kx c1;clear hq hbl
   cases q with
   |true =>go_wp2_with fail;refine kx.mono ?_;rintro e w3 ⟨rfl,b3⟩;have B3:=Kd (Q0 hb.out b3);clear b3 kx;go_wp2;go_ret;exact⟨(k:Int),rfl,B3.out,.inr ⟨k,KL.out,rfl,HQ.out,hp.out⟩⟩
   | false=>
     go_wp2_with fail;refine kx.mono ?_;rintro e w3 ⟨rfl,b3⟩;have B3:=Kd (Q0 hb.out b3);clear b3 kx;go_wp2
     go_roundw
     case rel=>exact⟨k+1,Nat.succ_le_of_lt KL.out,by go_num,Kd (fun j hj=>by rcases Nat.lt_succ_iff_lt_or_eq.1 hj with h|rfl;exact hp.out j h;exact HQ.out),B3⟩
     case measure=>have:=KL.out;simp[intOf];omega
  ·obtain rfl:k=N:=Nat.le_antisymm hk (Nat.le_of_not_lt hlt)
   have hge:decide ((k:Int)<(k:Int))=false :=(by simp);go_wp2;go_ret;exact⟨-1,rfl,hb.out,.inl ⟨rfl,hp.out⟩⟩
theorem cfSp_spec (f:Nat) (lb:Array Value) (he:∀ args w,(callFunc f args).run prog w=.ok (.enter f args) w) (A:Option Addr) (N c:Nat) (v0 v1:Nat→Value) (p:Nat→Bool) (w:World) (hm:N≤maxLen)
 (hc:∀ j,j<N→∃ b off,A=some ⟨b,off,none⟩∧b<w.heap.size∧w.cell? ⟨b,off+j*2,none⟩=some (v0 j)∧w.cell? ⟨b,off+j*2+1,none⟩=some (v1 j))
 (kf:∀ j W,j<N→Below w.heap.size w W→Calls prog f (#[.agg #[v0 j,v1 j]]++lb) W fun e w'=>e=.returned (.bool (p j))∧Below W.heap.size W w'):
 Calls prog 145 #[.slice A N c,.func (.func f) #[] lb] w fun e w'=>∃ b:Bool,e=.returned (.bool b)∧Below w.heap.size w w'∧Hh p N b:=by
 have k:=ixSp_spec f lb he A N c v0 v1 p w hm hc kf;clear hc kf;go_enter func145,ntmps145;go_wp2_with fail;refine k.mono ?_;rintro e w' ⟨j,rfl,b1,hj⟩;have HJ:=Kd hj.any;have B1:=Kd b1;clear hj k b1;go_wp2;go_ret;exact⟨_,rfl,B1.out,HJ.out⟩
theorem Pn (f:Nat) (lb:Array Value) (he:∀ args w,(callFunc f args).run prog w=.ok (.enter f args) w) (A:Option Addr) (N c:Nat) (v0 v1 v2:Nat→Value) (p:Nat→Bool) (w:World) (hm:N≤maxLen)
 (hc:∀ j,j<N→∃ b off,A=some ⟨b,off,none⟩∧b<w.heap.size∧w.cell? ⟨b,off+j*3,none⟩=some (v0 j)∧w.cell? ⟨b,off+j*3+1,none⟩=some (v1 j)∧w.cell? ⟨b,off+j*3+2,none⟩=some (v2 j))
 (kf:∀ j W,j<N→Below w.heap.size w W→Calls prog f (#[.agg #[v0 j,v1 j,v2 j]]++lb) W fun e w'=>e=.returned (.bool (p j))∧Below W.heap.size W w'):
 Calls prog 205 #[.slice A N c,.func (.func f) #[] lb] w fun e w'=>∃ j:Int,e=.returned (.int .i64 j)∧Below w.heap.size w w'∧IxP p N j:=by
 have hm':N≤9223372036854775807:=Nat.le_trans hm (by decide);have HC:=Kd hc;have KF:=Kd kf;clear hc kf;go_enter func205,ntmps205;go_wp2
 go_loopw [8] (fun i wr=>∃(k:Nat),k≤N∧i=.int .i64 k∧Hid (∀ j,j<k→p j=false)∧Hid (Below w.heap.size w wr)) (fun i _=>N-(intOf i).toNat)
 case atStart=>exact⟨0,Nat.zero_le _,rfl,Kd (fun j hj=>absurd hj (Nat.not_lt_zero _)),Kd (Below.refl _ _)⟩
 case round=>
  obtain⟨k,hk,rfl,hp,hb⟩:=hrel
  by_cases hlt:k<N
  ·obtain⟨b,off,rfl,hbl,c0,c1,c2⟩:=HC.out k hlt
   have kx:=KF.out k wr hlt hb.out;rw[←Ze hb.out (p:=⟨b,off+k*3,none⟩) hbl] at c0;rw[←Ze hb.out (p:=⟨b,off+k*3+1,none⟩) hbl] at c1;rw[←Ze hb.out (p:=⟨b,off+k*3+2,none⟩) hbl] at c2;generalize hq:p k=q at kx;have HQ:=Kd hq;have KL:=Kd hlt;have i0:(0:Int)≤(k:Int):=Int.natCast_nonneg _;have i1:(k:Int)<(N:Int):=Int.ofNat_lt.2 hlt;generalize v0 k=x0 at kx c0;generalize v1 k=x1 at kx c1;generalize v2 k=x2 at kx c2;clear hq hbl
   cases q with
   |true =>go_wp2_with fail;refine kx.mono ?_;rintro e w3 ⟨rfl,b3⟩;have B3:=Kd (Q0 hb.out b3);clear b3 kx;go_wp2;go_ret;exact⟨(k:Int),rfl,B3.out,.inr ⟨k,KL.out,rfl,HQ.out,hp.out⟩⟩
   | false=>
     go_wp2_with fail;refine kx.mono ?_;rintro e w3 ⟨rfl,b3⟩;have B3:=Kd (Q0 hb.out b3);clear b3 kx;go_wp2
     go_roundw
     case rel=>exact⟨k+1,Nat.succ_le_of_lt KL.out,by go_num,Kd (fun j hj=>by rcases Nat.lt_succ_iff_lt_or_eq.1 hj with h|rfl;exact hp.out j h;exact HQ.out),B3⟩
     case measure=>have:=KL.out;simp[intOf];omega
  ·obtain rfl:k=N:=Nat.le_antisymm hk (Nat.le_of_not_lt hlt)
   have hge:decide ((k:Int)<(k:Int))=false :=(by simp);go_wp2;go_ret;exact⟨-1,rfl,hb.out,.inl ⟨rfl,hp.out⟩⟩
theorem Od (f:Nat) (lb:Array Value) (he:∀ args w,(callFunc f args).run prog w=.ok (.enter f args) w) (A:Option Addr) (N c:Nat) (v0 v1 v2:Nat→Value) (p:Nat→Bool) (w:World) (hm:N≤maxLen)
 (hc:∀ j,j<N→∃ b off,A=some ⟨b,off,none⟩∧b<w.heap.size∧w.cell? ⟨b,off+j*3,none⟩=some (v0 j)∧w.cell? ⟨b,off+j*3+1,none⟩=some (v1 j)∧w.cell? ⟨b,off+j*3+2,none⟩=some (v2 j))
 (kf:∀ j W,j<N→Below w.heap.size w W→Calls prog f (#[.agg #[v0 j,v1 j,v2 j]]++lb) W fun e w'=>e=.returned (.bool (p j))∧Below W.heap.size W w'):
 Calls prog 150 #[.slice A N c,.func (.func f) #[] lb] w fun e w'=>∃ b:Bool,e=.returned (.bool b)∧Below w.heap.size w w'∧Hh p N b:=by
 have k:=Pn f lb he A N c v0 v1 v2 p w hm hc kf;clear hc kf;go_enter func150,ntmps150;go_wp2_with fail;refine k.mono ?_;rintro e w' ⟨j,rfl,b1,hj⟩;have HJ:=Kd hj.any;have B1:=Kd b1;clear hj k b1;go_wp2;go_ret;exact⟨_,rfl,B1.out,HJ.out⟩
theorem ixRq_spec (f:Nat) (lb:Array Value) (he:∀ args w,(callFunc f args).run prog w=.ok (.enter f args) w) (A:Option Addr) (N c:Nat) (v0 v1:Nat→Value) (p:Nat→Bool) (w:World) (hm:N≤maxLen)
 (hc:∀ j,j<N→∃ b off,A=some ⟨b,off,none⟩∧b<w.heap.size∧w.cell? ⟨b,off+j*2,none⟩=some (v0 j)∧w.cell? ⟨b,off+j*2+1,none⟩=some (v1 j))
 (kf:∀ j W,j<N→Below w.heap.size w W→Calls prog f (#[.agg #[v0 j,v1 j]]++lb) W fun e w'=>e=.returned (.bool (p j))∧Below W.heap.size W w'):
 Calls prog 49 #[.slice A N c,.func (.func f) #[] lb] w fun e w'=>∃ j:Int,e=.returned (.int .i64 j)∧Below w.heap.size w w'∧IxP p N j:=by
 have hm':N≤9223372036854775807:=Nat.le_trans hm (by decide);have HC:=Kd hc;have KF:=Kd kf;clear hc kf;go_enter func49,ntmps49;go_wp2
 go_loopw [8] (fun i wr=>∃(k:Nat),k≤N∧i=.int .i64 k∧Hid (∀ j,j<k→p j=false)∧Hid (Below w.heap.size w wr)) (fun i _=>N-(intOf i).toNat)
 case atStart=>exact⟨0,Nat.zero_le _,rfl,Kd (fun j hj=>absurd hj (Nat.not_lt_zero _)),Kd (Below.refl _ _)⟩
 case round=>
  obtain⟨k,hk,rfl,hp,hb⟩:=hrel
  by_cases hlt:k<N
  ·obtain⟨b,off,rfl,hbl,c0,c1⟩:=HC.out k hlt
   have kx:=KF.out k wr hlt hb.out;rw[←Ze hb.out (p:=⟨b,off+k*2,none⟩) hbl] at c0;rw[←Ze hb.out (p:=⟨b,off+k*2+1,none⟩) hbl] at c1;generalize hq:p k=q at kx;have HQ:=Kd hq;have KL:=Kd hlt;have i0:(0:Int)≤(k:Int):=Int.natCast_nonneg _;have i1:(k:Int)<(N:Int):=Int.ofNat_lt.2 hlt;generalize v0 k=x0 at kx c0;generalize v1 k=x1 at kx c1;clear hq hbl
   cases q with
   |true =>go_wp2_with fail;refine kx.mono ?_;rintro e w3 ⟨rfl,b3⟩;have B3:=Kd (Q0 hb.out b3);clear b3 kx;go_wp2;go_ret;exact⟨(k:Int),rfl,B3.out,.inr ⟨k,KL.out,rfl,HQ.out,hp.out⟩⟩
   | false=>
     go_wp2_with fail;refine kx.mono ?_;rintro e w3 ⟨rfl,b3⟩;have B3:=Kd (Q0 hb.out b3);clear b3 kx;go_wp2
     go_roundw
     case rel=>exact⟨k+1,Nat.succ_le_of_lt KL.out,by go_num,Kd (fun j hj=>by rcases Nat.lt_succ_iff_lt_or_eq.1 hj with h|rfl;exact hp.out j h;exact HQ.out),B3⟩
     case measure=>have:=KL.out;simp[intOf];omega
  ·obtain rfl:k=N:=Nat.le_antisymm hk (Nat.le_of_not_lt hlt)
   have hge:decide ((k:Int)<(k:Int))=false :=(by simp);go_wp2;go_ret;exact⟨-1,rfl,hb.out,.inl ⟨rfl,hp.out⟩⟩
theorem Vl (f:Nat) (lb:Array Value) (he:∀ args w,(callFunc f args).run prog w=.ok (.enter f args) w) (A:Option Addr) (N c:Nat) (v0 v1:Nat→Value) (p:Nat→Bool) (w:World) (hm:N≤maxLen)
 (hc:∀ j,j<N→∃ b off,A=some ⟨b,off,none⟩∧b<w.heap.size∧w.cell? ⟨b,off+j*2,none⟩=some (v0 j)∧w.cell? ⟨b,off+j*2+1,none⟩=some (v1 j))
 (kf:∀ j W,j<N→Below w.heap.size w W→Calls prog f (#[.agg #[v0 j,v1 j]]++lb) W fun e w'=>e=.returned (.bool (p j))∧Below W.heap.size W w'):
 Calls prog 26 #[.slice A N c,.func (.func f) #[] lb] w fun e w'=>∃ b:Bool,e=.returned (.bool b)∧Below w.heap.size w w'∧Hh p N b:=by
 have k:=ixRq_spec f lb he A N c v0 v1 p w hm hc kf;clear hc kf;go_enter func26,ntmps26;go_wp2_with fail;refine k.mono ?_;rintro e w' ⟨j,rfl,b1,hj⟩;have HJ:=Kd hj.any;have B1:=Kd b1;clear hj k b1;go_wp2;go_ret;exact⟨_,rfl,B1.out,HJ.out⟩
theorem Eu (f:Nat) (lb:Array Value) (he:∀ args w,(callFunc f args).run prog w=.ok (.enter f args) w) (A:Option Addr) (N c:Nat) (v0 v1 v2 v3:Nat→Value) (p:Nat→Bool) (w:World) (hm:N≤maxLen)
 (hc:∀ j,j<N→∃ b off,A=some ⟨b,off,none⟩∧b<w.heap.size∧w.cell? ⟨b,off+j*4,none⟩=some (v0 j)∧w.cell? ⟨b,off+j*4+1,none⟩=some (v1 j)∧w.cell? ⟨b,off+j*4+2,none⟩=some (v2 j)∧w.cell? ⟨b,off+j*4+3,none⟩=some (v3 j))
 (kf:∀ j W,j<N→Below w.heap.size w W→Calls prog f (#[.agg #[v0 j,v1 j,v2 j,v3 j]]++lb) W fun e w'=>e=.returned (.bool (p j))∧Below W.heap.size W w'):
 Calls prog 131 #[.slice A N c,.func (.func f) #[] lb] w fun e w'=>∃ j:Int,e=.returned (.int .i64 j)∧Below w.heap.size w w'∧IxP p N j:=by
 have hm':N≤9223372036854775807:=Nat.le_trans hm (by decide);have HC:=Kd hc;have KF:=Kd kf;clear hc kf;go_enter func131,ntmps131;go_wp2
 go_loopw [8] (fun i wr=>∃(k:Nat),k≤N∧i=.int .i64 k∧Hid (∀ j,j<k→p j=false)∧Hid (Below w.heap.size w wr)) (fun i _=>N-(intOf i).toNat)
 case atStart=>exact⟨0,Nat.zero_le _,rfl,Kd (fun j hj=>absurd hj (Nat.not_lt_zero _)),Kd (Below.refl _ _)⟩
 case round=>
  obtain⟨k,hk,rfl,hp,hb⟩:=hrel
  by_cases hlt:k<N
  ·obtain⟨b,off,rfl,hbl,c0,c1,c2,c3⟩:=HC.out k hlt
   have kx:=KF.out k wr hlt hb.out;rw[←Ze hb.out (p:=⟨b,off+k*4,none⟩) hbl] at c0;rw[←Ze hb.out (p:=⟨b,off+k*4+1,none⟩) hbl] at c1;rw[←Ze hb.out (p:=⟨b,off+k*4+2,none⟩) hbl] at c2;rw[←Ze hb.out (p:=⟨b,off+k*4+3,none⟩) hbl] at c3;generalize hq:p k=q at kx;have HQ:=Kd hq;have KL:=Kd hlt;have i0:(0:Int)≤(k:Int):=Int.natCast_nonneg _;have i1:(k:Int)<(N:Int):=Int.ofNat_lt.2 hlt;generalize v0 k=x0 at kx c0;generalize v1 k=x1 at kx c1;generalize v2 k=x2 at kx c2;generalize v3 k=x3 at kx c3;clear hq hbl
   cases q with
   |true =>go_wp2_with fail;refine kx.mono ?_;rintro e w3 ⟨rfl,b3⟩;have B3:=Kd (Q0 hb.out b3);clear b3 kx;go_wp2;go_ret;exact⟨(k:Int),rfl,B3.out,.inr ⟨k,KL.out,rfl,HQ.out,hp.out⟩⟩
   | false=>
     go_wp2_with fail;refine kx.mono ?_;rintro e w3 ⟨rfl,b3⟩;have B3:=Kd (Q0 hb.out b3);clear b3 kx;go_wp2
     go_roundw
     case rel=>exact⟨k+1,Nat.succ_le_of_lt KL.out,by go_num,Kd (fun j hj=>by rcases Nat.lt_succ_iff_lt_or_eq.1 hj with h|rfl;exact hp.out j h;exact HQ.out),B3⟩
     case measure=>have:=KL.out;simp[intOf];omega
  ·obtain rfl:k=N:=Nat.le_antisymm hk (Nat.le_of_not_lt hlt)
   have hge:decide ((k:Int)<(k:Int))=false :=(by simp);go_wp2;go_ret;exact⟨-1,rfl,hb.out,.inl ⟨rfl,hp.out⟩⟩
theorem Oe (f:Nat) (lb:Array Value) (he:∀ args w,(callFunc f args).run prog w=.ok (.enter f args) w) (A:Option Addr) (N c:Nat) (v0 v1 v2 v3:Nat→Value) (p:Nat→Bool) (w:World) (hm:N≤maxLen)
 (hc:∀ j,j<N→∃ b off,A=some ⟨b,off,none⟩∧b<w.heap.size∧w.cell? ⟨b,off+j*4,none⟩=some (v0 j)∧w.cell? ⟨b,off+j*4+1,none⟩=some (v1 j)∧w.cell? ⟨b,off+j*4+2,none⟩=some (v2 j)∧w.cell? ⟨b,off+j*4+3,none⟩=some (v3 j))
 (kf:∀ j W,j<N→Below w.heap.size w W→Calls prog f (#[.agg #[v0 j,v1 j,v2 j,v3 j]]++lb) W fun e w'=>e=.returned (.bool (p j))∧Below W.heap.size W w'):
 Calls prog 129 #[.slice A N c,.func (.func f) #[] lb] w fun e w'=>∃ b:Bool,e=.returned (.bool b)∧Below w.heap.size w w'∧Hh p N b:=by
 have k:=Eu f lb he A N c v0 v1 v2 v3 p w hm hc kf;clear hc kf;go_enter func129,ntmps129;go_wp2_with fail;refine k.mono ?_;rintro e w' ⟨j,rfl,b1,hj⟩;have HJ:=Kd hj.any;have B1:=Kd b1;clear hj k b1;go_wp2;go_ret;exact⟨_,rfl,B1.out,HJ.out⟩
theorem ixRl_spec (f:Nat) (lb:Array Value) (he:∀ args w,(callFunc f args).run prog w=.ok (.enter f args) w) (A:Option Addr) (N c:Nat) (v0 v1 v2 v3 v4 v5 v6 v7 v8:Nat→Value) (p:Nat→Bool) (w:World) (hm:N≤maxLen)
 (hc:∀ j,j<N→∃ b off,A=some ⟨b,off,none⟩∧b<w.heap.size∧w.cell? ⟨b,off+j*9,none⟩=some (v0 j)∧w.cell? ⟨b,off+j*9+1,none⟩=some (v1 j)∧w.cell? ⟨b,off+j*9+2,none⟩=some (v2 j)∧w.cell? ⟨b,off+j*9+3,none⟩=some (v3 j)∧w.cell? ⟨b,off+j*9+4,none⟩=some (v4 j)∧w.cell? ⟨b,off+j*9+5,none⟩=some (v5 j)∧w.cell? ⟨b,off+j*9+6,none⟩=some (v6 j)∧w.cell? ⟨b,off+j*9+7,none⟩=some (v7 j)∧w.cell? ⟨b,off+j*9+8,none⟩=some (v8 j))
 (kf:∀ j W,j<N→Below w.heap.size w W→Calls prog f (#[.agg #[v0 j,v1 j,v2 j,v3 j,v4 j,v5 j,v6 j,v7 j,v8 j]]++lb) W fun e w'=>e=.returned (.bool (p j))∧Below W.heap.size W w'):
 Calls prog 48 #[.slice A N c,.func (.func f) #[] lb] w fun e w'=>∃ j:Int,e=.returned (.int .i64 j)∧Below w.heap.size w w'∧IxP p N j:=by
 have hm':N≤9223372036854775807:=Nat.le_trans hm (by decide);have HC:=Kd hc;have KF:=Kd kf;clear hc kf;go_enter func48,ntmps48;go_wp2
 go_loopw [8] (fun i wr=>∃(k:Nat),k≤N∧i=.int .i64 k∧Hid (∀ j,j<k→p j=false)∧Hid (Below w.heap.size w wr)) (fun i _=>N-(intOf i).toNat)
 case atStart=>exact⟨0,Nat.zero_le _,rfl,Kd (fun j hj=>absurd hj (Nat.not_lt_zero _)),Kd (Below.refl _ _)⟩
 case round=>
  obtain⟨k,hk,rfl,hp,hb⟩:=hrel
  by_cases hlt:k<N
  ·obtain⟨b,off,rfl,hbl,c0,c1,c2,c3,c4,c5,c6,c7,c8⟩:=HC.out k hlt
   have kx:=KF.out k wr hlt hb.out;rw[←Ze hb.out (p:=⟨b,off+k*9,none⟩) hbl] at c0;rw[←Ze hb.out (p:=⟨b,off+k*9+1,none⟩) hbl] at c1;rw[←Ze hb.out (p:=⟨b,off+k*9+2,none⟩) hbl] at c2;rw[←Ze hb.out (p:=⟨b,off+k*9+3,none⟩) hbl] at c3;rw[←Ze hb.out (p:=⟨b,off+k*9+4,none⟩) hbl] at c4;rw[←Ze hb.out (p:=⟨b,off+k*9+5,none⟩) hbl] at c5;rw[←Ze hb.out (p:=⟨b,off+k*9+6,none⟩) hbl] at c6;rw[←Ze hb.out (p:=⟨b,off+k*9+7,none⟩) hbl] at c7;rw[←Ze hb.out (p:=⟨b,off+k*9+8,none⟩) hbl] at c8;generalize hq:p k=q at kx;have HQ:=Kd hq;have KL:=Kd hlt;have i0:(0:Int)≤(k:Int):=Int.natCast_nonneg _;have i1:(k:Int)<(N:Int):=Int.ofNat_lt.2 hlt;generalize v0 k=x0 at kx c0;generalize v1 k=x1 at kx c1;generalize v2 k=x2 at kx c2;generalize v3 k=x3 at kx c3;generalize v4 k=x4 at kx c4;generalize v5 k=x5 at kx c5;generalize v6 k=x6 at kx c6;generalize v7 k=x7 at kx c7;generalize v8 k=x8 at kx c8;clear hq hbl
   cases q with
   |true =>go_wp2_with fail;refine kx.mono ?_;rintro e w3 ⟨rfl,b3⟩;have B3:=Kd (Q0 hb.out b3);clear b3 kx;go_wp2;go_ret;exact⟨(k:Int),rfl,B3.out,.inr ⟨k,KL.out,rfl,HQ.out,hp.out⟩⟩
   | false=>
     go_wp2_with fail;refine kx.mono ?_;rintro e w3 ⟨rfl,b3⟩;have B3:=Kd (Q0 hb.out b3);clear b3 kx;go_wp2
     go_roundw
     case rel=>exact⟨k+1,Nat.succ_le_of_lt KL.out,by go_num,Kd (fun j hj=>by rcases Nat.lt_succ_iff_lt_or_eq.1 hj with h|rfl;exact hp.out j h;exact HQ.out),B3⟩
     case measure=>have:=KL.out;simp[intOf];omega
  ·obtain rfl:k=N:=Nat.le_antisymm hk (Nat.le_of_not_lt hlt)
   have hge:decide ((k:Int)<(k:Int))=false :=(by simp);go_wp2;go_ret;exact⟨-1,rfl,hb.out,.inl ⟨rfl,hp.out⟩⟩
theorem cfRl_spec (f:Nat) (lb:Array Value) (he:∀ args w,(callFunc f args).run prog w=.ok (.enter f args) w) (A:Option Addr) (N c:Nat) (v0 v1 v2 v3 v4 v5 v6 v7 v8:Nat→Value) (p:Nat→Bool) (w:World) (hm:N≤maxLen)
 (hc:∀ j,j<N→∃ b off,A=some ⟨b,off,none⟩∧b<w.heap.size∧w.cell? ⟨b,off+j*9,none⟩=some (v0 j)∧w.cell? ⟨b,off+j*9+1,none⟩=some (v1 j)∧w.cell? ⟨b,off+j*9+2,none⟩=some (v2 j)∧w.cell? ⟨b,off+j*9+3,none⟩=some (v3 j)∧w.cell? ⟨b,off+j*9+4,none⟩=some (v4 j)∧w.cell? ⟨b,off+j*9+5,none⟩=some (v5 j)∧w.cell? ⟨b,off+j*9+6,none⟩=some (v6 j)∧w.cell? ⟨b,off+j*9+7,none⟩=some (v7 j)∧w.cell? ⟨b,off+j*9+8,none⟩=some (v8 j))
 (kf:∀ j W,j<N→Below w.heap.size w W→Calls prog f (#[.agg #[v0 j,v1 j,v2 j,v3 j,v4 j,v5 j,v6 j,v7 j,v8 j]]++lb) W fun e w'=>e=.returned (.bool (p j))∧Below W.heap.size W w'):
 Calls prog 24 #[.slice A N c,.func (.func f) #[] lb] w fun e w'=>∃ b:Bool,e=.returned (.bool b)∧Below w.heap.size w w'∧Hh p N b:=by
 have k:=ixRl_spec f lb he A N c v0 v1 v2 v3 v4 v5 v6 v7 v8 p w hm hc kf;clear hc kf;go_enter func24,ntmps24;go_wp2_with fail;refine k.mono ?_;rintro e w' ⟨j,rfl,b1,hj⟩;have HJ:=Kd hj.any;have B1:=Kd b1;clear hj k b1;go_wp2;go_ret;exact⟨_,rfl,B1.out,HJ.out⟩
theorem ixCa_spec (f:Nat) (lb:Array Value) (he:∀ args w,(callFunc f args).run prog w=.ok (.enter f args) w) (A:Option Addr) (N c:Nat) (v0 v1 v2 v3 v4 v5 v6 v7 v8 v9:Nat→Value) (p:Nat→Bool) (w:World) (hm:N≤maxLen)
 (hc:∀ j,j<N→∃ b off,A=some ⟨b,off,none⟩∧b<w.heap.size∧w.cell? ⟨b,off+j*10,none⟩=some (v0 j)∧w.cell? ⟨b,off+j*10+1,none⟩=some (v1 j)∧w.cell? ⟨b,off+j*10+2,none⟩=some (v2 j)∧w.cell? ⟨b,off+j*10+3,none⟩=some (v3 j)∧w.cell? ⟨b,off+j*10+4,none⟩=some (v4 j)∧w.cell? ⟨b,off+j*10+5,none⟩=some (v5 j)∧w.cell? ⟨b,off+j*10+6,none⟩=some (v6 j)∧w.cell? ⟨b,off+j*10+7,none⟩=some (v7 j)∧w.cell? ⟨b,off+j*10+8,none⟩=some (v8 j)∧w.cell? ⟨b,off+j*10+9,none⟩=some (v9 j))
 (kf:∀ j W,j<N→Below w.heap.size w W→Calls prog f (#[.agg #[v0 j,v1 j,v2 j,v3 j,v4 j,v5 j,v6 j,v7 j,v8 j,v9 j]]++lb) W fun e w'=>e=.returned (.bool (p j))∧Below W.heap.size W w'):
 Calls prog 250 #[.slice A N c,.func (.func f) #[] lb] w fun e w'=>∃ j:Int,e=.returned (.int .i64 j)∧Below w.heap.size w w'∧IxP p N j:=by
 have hm':N≤9223372036854775807:=Nat.le_trans hm (by decide);have HC:=Kd hc;have KF:=Kd kf;clear hc kf;go_enter func250,ntmps250;go_wp2
 go_loopw [8] (fun i wr=>∃(k:Nat),k≤N∧i=.int .i64 k∧Hid (∀ j,j<k→p j=false)∧Hid (Below w.heap.size w wr)) (fun i _=>N-(intOf i).toNat)
 case atStart=>exact⟨0,Nat.zero_le _,rfl,Kd (fun j hj=>absurd hj (Nat.not_lt_zero _)),Kd (Below.refl _ _)⟩
 case round=>
  obtain⟨k,hk,rfl,hp,hb⟩:=hrel
  by_cases hlt:k<N
  ·obtain⟨b,off,rfl,hbl,c0,c1,c2,c3,c4,c5,c6,c7,c8,c9⟩:=HC.out k hlt
   have kx:=KF.out k wr hlt hb.out;rw[←Ze hb.out (p:=⟨b,off+k*10,none⟩) hbl] at c0;rw[←Ze hb.out (p:=⟨b,off+k*10+1,none⟩) hbl] at c1;rw[←Ze hb.out (p:=⟨b,off+k*10+2,none⟩) hbl] at c2;rw[←Ze hb.out (p:=⟨b,off+k*10+3,none⟩) hbl] at c3;rw[←Ze hb.out (p:=⟨b,off+k*10+4,none⟩) hbl] at c4;rw[←Ze hb.out (p:=⟨b,off+k*10+5,none⟩) hbl] at c5;rw[←Ze hb.out (p:=⟨b,off+k*10+6,none⟩) hbl] at c6;rw[←Ze hb.out (p:=⟨b,off+k*10+7,none⟩) hbl] at c7;rw[←Ze hb.out (p:=⟨b,off+k*10+8,none⟩) hbl] at c8;rw[←Ze hb.out (p:=⟨b,off+k*10+9,none⟩) hbl] at c9;generalize hq:p k=q at kx;have HQ:=Kd hq;have KL:=Kd hlt;have i0:(0:Int)≤(k:Int):=Int.natCast_nonneg _;have i1:(k:Int)<(N:Int):=Int.ofNat_lt.2 hlt;generalize v0 k=x0 at kx c0;generalize v1 k=x1 at kx c1;generalize v2 k=x2 at kx c2;generalize v3 k=x3 at kx c3;generalize v4 k=x4 at kx c4;generalize v5 k=x5 at kx c5;generalize v6 k=x6 at kx c6;generalize v7 k=x7 at kx c7;generalize v8 k=x8 at kx c8;generalize v9 k=x9 at kx c9;clear hq hbl
   cases q with
   |true =>go_wp2_with fail;refine kx.mono ?_;rintro e w3 ⟨rfl,b3⟩;have B3:=Kd (Q0 hb.out b3);clear b3 kx;go_wp2;go_ret;exact⟨(k:Int),rfl,B3.out,.inr ⟨k,KL.out,rfl,HQ.out,hp.out⟩⟩
   | false=>
     go_wp2_with fail;refine kx.mono ?_;rintro e w3 ⟨rfl,b3⟩;have B3:=Kd (Q0 hb.out b3);clear b3 kx;go_wp2
     go_roundw
     case rel=>exact⟨k+1,Nat.succ_le_of_lt KL.out,by go_num,Kd (fun j hj=>by rcases Nat.lt_succ_iff_lt_or_eq.1 hj with h|rfl;exact hp.out j h;exact HQ.out),B3⟩
     case measure=>have:=KL.out;simp[intOf];omega
  ·obtain rfl:k=N:=Nat.le_antisymm hk (Nat.le_of_not_lt hlt)
   have hge:decide ((k:Int)<(k:Int))=false :=(by simp);go_wp2;go_ret;exact⟨-1,rfl,hb.out,.inl ⟨rfl,hp.out⟩⟩
theorem cfCa_spec (f:Nat) (lb:Array Value) (he:∀ args w,(callFunc f args).run prog w=.ok (.enter f args) w) (A:Option Addr) (N c:Nat) (v0 v1 v2 v3 v4 v5 v6 v7 v8 v9:Nat→Value) (p:Nat→Bool) (w:World) (hm:N≤maxLen)
 (hc:∀ j,j<N→∃ b off,A=some ⟨b,off,none⟩∧b<w.heap.size∧w.cell? ⟨b,off+j*10,none⟩=some (v0 j)∧w.cell? ⟨b,off+j*10+1,none⟩=some (v1 j)∧w.cell? ⟨b,off+j*10+2,none⟩=some (v2 j)∧w.cell? ⟨b,off+j*10+3,none⟩=some (v3 j)∧w.cell? ⟨b,off+j*10+4,none⟩=some (v4 j)∧w.cell? ⟨b,off+j*10+5,none⟩=some (v5 j)∧w.cell? ⟨b,off+j*10+6,none⟩=some (v6 j)∧w.cell? ⟨b,off+j*10+7,none⟩=some (v7 j)∧w.cell? ⟨b,off+j*10+8,none⟩=some (v8 j)∧w.cell? ⟨b,off+j*10+9,none⟩=some (v9 j))
 (kf:∀ j W,j<N→Below w.heap.size w W→Calls prog f (#[.agg #[v0 j,v1 j,v2 j,v3 j,v4 j,v5 j,v6 j,v7 j,v8 j,v9 j]]++lb) W fun e w'=>e=.returned (.bool (p j))∧Below W.heap.size W w'):
 Calls prog 200 #[.slice A N c,.func (.func f) #[] lb] w fun e w'=>∃ b:Bool,e=.returned (.bool b)∧Below w.heap.size w w'∧Hh p N b:=by
 have k:=ixCa_spec f lb he A N c v0 v1 v2 v3 v4 v5 v6 v7 v8 v9 p w hm hc kf;clear hc kf;go_enter func200,ntmps200;go_wp2_with fail;refine k.mono ?_;rintro e w' ⟨j,rfl,b1,hj⟩;have HJ:=Kd hj.any;have B1:=Kd b1;clear hj k b1;go_wp2;go_ret;exact⟨_,rfl,B1.out,HJ.out⟩
theorem ixNe_spec (f:Nat) (lb:Array Value) (he:∀ args w,(callFunc f args).run prog w=.ok (.enter f args) w) (A:Option Addr) (N c:Nat) (v0 v1 v2 v3 v4:Nat→Value) (p:Nat→Bool) (w:World) (hm:N≤maxLen)
 (hc:∀ j,j<N→∃ b off,A=some ⟨b,off,none⟩∧b<w.heap.size∧w.cell? ⟨b,off+j*5,none⟩=some (v0 j)∧w.cell? ⟨b,off+j*5+1,none⟩=some (v1 j)∧w.cell? ⟨b,off+j*5+2,none⟩=some (v2 j)∧w.cell? ⟨b,off+j*5+3,none⟩=some (v3 j)∧w.cell? ⟨b,off+j*5+4,none⟩=some (v4 j))
 (kf:∀ j W,j<N→Below w.heap.size w W→Calls prog f (#[.agg #[v0 j,v1 j,v2 j,v3 j,v4 j]]++lb) W fun e w'=>e=.returned (.bool (p j))∧Below W.heap.size W w'):
 Calls prog 94 #[.slice A N c,.func (.func f) #[] lb] w fun e w'=>∃ j:Int,e=.returned (.int .i64 j)∧Below w.heap.size w w'∧IxP p N j:=by
 have hm':N≤9223372036854775807:=Nat.le_trans hm (by decide);have HC:=Kd hc;have KF:=Kd kf;clear hc kf;go_enter func94,ntmps94;go_wp2
 go_loopw [8] (fun i wr=>∃(k:Nat),k≤N∧i=.int .i64 k∧Hid (∀ j,j<k→p j=false)∧Hid (Below w.heap.size w wr)) (fun i _=>N-(intOf i).toNat)
 case atStart=>exact⟨0,Nat.zero_le _,rfl,Kd (fun j hj=>absurd hj (Nat.not_lt_zero _)),Kd (Below.refl _ _)⟩
 case round=>
  obtain⟨k,hk,rfl,hp,hb⟩:=hrel
  by_cases hlt:k<N
  ·obtain⟨b,off,rfl,hbl,c0,c1,c2,c3,c4⟩:=HC.out k hlt
   have kx:=KF.out k wr hlt hb.out;rw[←Ze hb.out (p:=⟨b,off+k*5,none⟩) hbl] at c0;rw[←Ze hb.out (p:=⟨b,off+k*5+1,none⟩) hbl] at c1;rw[←Ze hb.out (p:=⟨b,off+k*5+2,none⟩) hbl] at c2;rw[←Ze hb.out (p:=⟨b,off+k*5+3,none⟩) hbl] at c3;rw[←Ze hb.out (p:=⟨b,off+k*5+4,none⟩) hbl] at c4;generalize hq:p k=q at kx;have HQ:=Kd hq;have KL:=Kd hlt;have i0:(0:Int)≤(k:Int):=Int.natCast_nonneg _;have i1:(k:Int)<(N:Int):=Int.ofNat_lt.2 hlt;generalize v0 k=x0 at kx c0;generalize v1 k=x1 at kx c1;generalize v2 k=x2 at kx c2;generalize v3 k=x3 at kx c3;generalize v4 k=x4 at kx c4;clear hq hbl
   cases q with
   |true =>go_wp2_with fail;refine kx.mono ?_;rintro e w3 ⟨rfl,b3⟩;have B3:=Kd (Q0 hb.out b3);clear b3 kx;go_wp2;go_ret;exact⟨(k:Int),rfl,B3.out,.inr ⟨k,KL.out,rfl,HQ.out,hp.out⟩⟩
   | false=>
     go_wp2_with fail;refine kx.mono ?_;rintro e w3 ⟨rfl,b3⟩;have B3:=Kd (Q0 hb.out b3);clear b3 kx;go_wp2
     go_roundw
     case rel=>exact⟨k+1,Nat.succ_le_of_lt KL.out,by go_num,Kd (fun j hj=>by rcases Nat.lt_succ_iff_lt_or_eq.1 hj with h|rfl;exact hp.out j h;exact HQ.out),B3⟩
     case measure=>have:=KL.out;simp[intOf];omega
  ·obtain rfl:k=N:=Nat.le_antisymm hk (Nat.le_of_not_lt hlt)
   have hge:decide ((k:Int)<(k:Int))=false :=(by simp);go_wp2;go_ret;exact⟨-1,rfl,hb.out,.inl ⟨rfl,hp.out⟩⟩
end Go.Proofs.YtiefajiebebgoaaGreatDoor
