/- Lemmas and contracts on what the walks need, several small texts in one. Conditions: as each theorem states. -/
import Derived.Test.YtiefajiebebgoaaGreatDoorQHd
import Derived.Test.YtiefajiebebgoaaGreatDoorQUcB
set_option maxRecDepth 100000
set_option maxHeartbeats 16000000
open Go.Proofs.Tryz
namespace Go.Proofs.YtiefajiebebgoaaGreatDoor
set_option linter.unusedVariables false
open Go.RowKit Go.Shelf
attribute [local go_sem] Oper.semAt_some
structure Ul where
 path:Tm.Qk
 v:Value
 xs:List Qi
def grR (e:TypeId) (size:Nat) (enc:Qi→List Value) (r:Ul):Q3:=Qh e size r.v r.xs.length (r.xs.flatMap enc)
def Xh (M:Lit→Option Value) (R:List Ul):Prop:=R.Pairwise (fun a b=>a.path≠b.path)∧∀ s:Tm.Qk,M (.string s)=(R.find? fun e=>decide (e.path=s)).map (·.v)
def curW (R:List Ul) (p:Tm.Qk):Value:=match R.find? fun e=>decide (e.path=p) with
 |some e=>e.v
 |none=>.slice none 0 0
def Hy (R:List Ul) (p:Tm.Qk):List Qi:=match R.find? fun e=>decide (e.path=p) with
 |some e=>e.xs
 |none=>[]
def Vw (R:List Ul) (p:Tm.Qk):List Ul:=R.filter fun e=>!decide (e.path=p)
theorem Xh.nil:Xh (fun _=>none) []:=⟨List.Pairwise.nil,fun _=>rfl⟩
theorem Xh.look {M:Lit→Option Value} {R:List Ul} (h:Xh M R) (p:Tm.Qk):(M (.string p)).getD (.slice none 0 0)=curW R p:=by
 rw[h.2 p];unfold curW
 cases R.find? fun e=>decide (e.path=p)<;>rfl
theorem Pe:∀ {R:List Ul} {p:Tm.Qk} {e:Ul},R.Pairwise (fun a b=>a.path≠b.path)→R.find? (fun e=>decide (e.path=p))=some e→R.Perm (e::Vw R p)
 |[],_,_,_,h=>by cases h
 | a::R,p,e,hn,h=>by
   obtain⟨h1,h2⟩:=List.pairwise_cons.1 hn;unfold Vw;rw[List.filter_cons]
   by_cases ha:a.path=p
   ·rw[List.find?_cons,decide_eq_true ha] at h
    obtain rfl:=Option.some.inj h;rw[decide_eq_true ha];have:R.filter (fun e=>!decide (e.path=p))=R:=List.filter_eq_self.2 fun x hx=>by have:=h1 x hx;simp;intro e;exact this (by rw[ha,e])
    rw[this];exact List.Perm.refl _
   ·rw[List.find?_cons,decide_eq_false ha] at h
    rw[decide_eq_false ha];exact((Pe h2 h).cons a).trans (List.Perm.swap _ _ _)
theorem offG_none {R:List Ul} {p:Tm.Qk} (h:R.find? (fun e=>decide (e.path=p))=none):Vw R p=R:=List.filter_eq_self.2 fun x hx=>by have:=List.find?_eq_none.1 h x hx;simpa using this
section
variable {lo:Nat} {w0 w:World} {Rs:List Q3} {R:List Ul} {e:TypeId} {size:Nat} {enc:Qi→List Value}
theorem St.takeG (h:St lo w0 w (Rs++R.map (grR e size enc))) (hn:R.Pairwise fun a b=>a.path≠b.path) (p:Tm.Qk):
 St lo w0 w (Qh e size (curW R p) (Hy R p).length ((Hy R p).flatMap enc)::(Rs++(Vw R p).map (grR e size enc))):=by
 unfold curW Hy
 cases hf:R.find? (fun e=>decide (e.path=p)) with
 |none =>rw[offG_none hf];exact h.new_own (Below.refl _ w) ⟨by rw[List.length_nil,Nat.zero_mul];rfl,.inl ⟨rfl,rfl⟩⟩
 |some r =>refine h.permR ?_;have h1:=(Pe hn hf).map (grR e size enc);exact(h1.append_left Rs).trans List.perm_middle
theorem St.putG {p:Tm.Qk} {v:Value} {xs:List Qi} (h:St lo w0 w (Qh e size v xs.length (xs.flatMap enc)::(Rs++(Vw R p).map (grR e size enc)))):
 St lo w0 w (Rs++(⟨p,v,xs⟩::Vw R p).map (grR e size enc)):=h.permR List.perm_middle.symm
end
theorem Xh.put {M:Lit→Option Value} {R:List Ul} (h:Xh M R) (p:Tm.Qk) (v:Value) (xs:List Qi):Xh (Jq M (.string p) v) (⟨p,v,xs⟩::Vw R p):=by
 refine⟨List.pairwise_cons.2 ⟨fun e he=>?_,h.1.filter _⟩,fun s=>?_⟩
 ·have:=(List.mem_filter.1 he).2
  simp at this;exact fun e=>this e.symm
 ·rw[List.find?_cons]
  by_cases hs:s=p
  ·subst hs
   rw[Zd,decide_eq_true rfl];rfl
  ·rw[Qz (fun e=>hs (Lit.string.inj e)),decide_eq_false (fun e=>hs e.symm),h.2 s]
   congr 1
   unfold Vw;rw[List.find?_filter]
   congr 1
   funext e
   by_cases he:e.path=s
   ·simp[he,hs]
   ·simp[he]
theorem curL_put (R:List Ul) (p:Tm.Qk) (v:Value) (xs:List Qi) (s:Tm.Qk):Hy (⟨p,v,xs⟩::Vw R p) s=if s=p then xs else Hy R s:=by
 unfold Hy;rw[List.find?_cons]
 by_cases hs:s=p
 ·subst hs
  rw[decide_eq_true rfl,if_pos rfl]
 ·rw[decide_eq_false (fun e=>hs e.symm),if_neg hs]
  have:(Vw R p).find? (fun e=>decide (e.path=s))=R.find? (fun e=>decide (e.path=s)):=by
   unfold Vw;rw[List.find?_filter]
   congr 1
   funext e
   by_cases he:e.path=s
   ·simp[he,hs]
   ·simp[he]
  rw[this]
def Ww (q:Qi→Bool) (X:List Qi) (k:Nat) (R:List Ul):Prop:=∀ p,Hy R p=(X.take k).filter fun r=>r.path==p&&q r
theorem Yn {X:List Qi} {k:Nat} {r:Qi} (hr:X[k]?=some r):X.take (k+1)=X.take k++[r]:=by obtain⟨hk,e⟩:=List.getElem?_eq_some_iff.1 hr;rw[List.take_succ_eq_append_getElem hk,e]
theorem Ww.step {q:Qi→Bool} {X:List Qi} {k:Nat} {R:List Ul} (h:Ww q X k R) {r:Qi} (hr:X[k]?=some r) (hy:q r=true) (v:Value):Ww q X (k+1) (⟨r.path,v,Hy R r.path++[r]⟩::Vw R r.path):=fun p=>by
 rw[curL_put,Yn hr,List.filter_append]
 by_cases hp:p=r.path
 ·subst hp
  rw[if_pos rfl,h r.path];simp[hy]
 ·rw[if_neg hp,h p]
  have e:(r.path==p)=false:=beq_eq_false_iff_ne.2 fun e=>hp e.symm;rw[List.filter_cons,List.filter_nil,e,Bool.false_and,if_neg Bool.false_ne_true,List.append_nil]
theorem Ww.skip {q:Qi→Bool} {X:List Qi} {k:Nat} {R:List Ul} (h:Ww q X k R) {r:Qi} (hr:X[k]?=some r) (hy:q r=false):Ww q X (k+1) R:=fun p=>by rw[Yn hr,List.filter_append,h p];simp[hy]
theorem Ww.nil (q:Qi→Bool) (X:List Qi):Ww q X 0 []:=fun p=>by rw[List.take_zero];rfl
def Ot (s:Zy):Value:=.agg (Wm s).toArray
def M0 (s:Zy):Prop:=s.1.length≤4294967000∧(-9223372036854775808≤s.2.1∧s.2.1≤9223372036854775807)∧(-9223372036854775808≤s.2.2.1∧s.2.2.1≤9223372036854775807)∧(-9223372036854775808≤s.2.2.2∧s.2.2.2≤9223372036854775807)
theorem fields2' {l:List Field} {a:List (String×TypeId×Nat)} (ha:a.length=2) (h:l.map (fun f=>(f.name,f.type,f.offset))=a):∃ f0 f1:Field,l=[f0,f1]:=by
 have hl:l.length=2:=by rw[←ha,←h,List.length_map]
 match l,hl with
 |[f0,f1],_=>exact⟨f0,f1,rfl⟩
theorem fields3' {l:List Field} {a:List (String×TypeId×Nat)} (ha:a.length=3) (h:l.map (fun f=>(f.name,f.type,f.offset))=a):∃ f0 f1 f2:Field,l=[f0,f1,f2]:=by
 have hl:l.length=3:=by rw[←ha,←h,List.length_map]
 match l,hl with
 |[f0,f1,f2],_=>exact⟨f0,f1,f2,rfl⟩
theorem undSel:prog.underlying 38=some (.struct (prog.fieldsOf 38)):=by kernel_rfl
theorem fldSel:(prog.fieldsOf 38).toList.map (fun f=>(f.name,f.type,f.offset))=[("Path",9,0),("Version",36,1)]:=by kernel_rfl
theorem undVer:prog.underlying 36=some (.struct (prog.fieldsOf 36)):=by kernel_rfl
theorem fldVer:(prog.fieldsOf 36).toList.map (fun f=>(f.name,f.type,f.offset))=[("Major",3,0),("Minor",3,1),("Patch",3,2)]:=by kernel_rfl
theorem cellsSel:prog.cellsOf 38=4:=by kernel_rfl
theorem cellsVer:prog.cellsOf 36=3:=by kernel_rfl
theorem keyStruct2 {P:Program} {k:TypeId} {fs:Array Field} (hk:P.underlying k=some (.struct fs)) (hkt:P.keyType k=true) (hd:3≤P.types.size) (cs:List Value) (hcl:(Value.agg cs.toArray).cells.toList=cs) (hc:cs.length=P.cellsOf k) (hn:fs.toList.all (·.name != "_")=true) (ls:List (List Lit))
 (h:∀ d,fs.toList.mapM (fun f=>P.keyLits (d+1+1) f.type ((cs.drop f.offset).take (P.cellsOf f.type)))=some ls):keyOf P k (.agg cs.toArray)=some (.string (keyBytes ls.flatten)):=by
 obtain⟨d,hd⟩:∃ d,P.types.size=d+1+1:=⟨P.types.size-1-1,by omega⟩;have hn':fs.all (·.name != "_")=true:=by rw[←Array.all_toList];exact hn
 have hl:P.keyLits (P.types.size+1) k cs=some ls.flatten:=by rw[hd];unfold Program.keyLits;rw[hk];dsimp only;rw[if_pos ⟨hc,hn'⟩,h d];rfl
 unfold keyOf;rw[hk];dsimp only;have hf:(Value.agg cs.toArray).formed P k=true:=by unfold Value.formed;rw[hk];simp[hc]
 rw[hkt,hf,hcl,hl];rfl
theorem size3:3≤prog.types.size:=Nat.le_trans (by decide:3≤(152:Nat)) (Nat.le_of_lt rowInf)
theorem selKey (s:Zy) (h:M0 s):∃ l,keyOf prog 38 (Ot s)=some l:=by
 obtain⟨p,a,b,c⟩:=s;obtain⟨h1,h2,h3,h4⟩:=h;dsimp only at h1 h2 h3 h4;have w2:=Nk h2;have w3:=Nk h3;have w4:=Nk h4;have hs:(⟨p.toArray⟩:ByteArray).size≤maxLen:=by rw[Zf];unfold maxLen;omega
 obtain⟨f0,f1,hf⟩:=fields2' rfl fldSel;have hm:=fldSel;rw[hf] at hm;simp only[List.map_cons,List.map_nil,List.cons.injEq,Prod.mk.injEq,and_true] at hm;obtain⟨⟨a0,b0,c0⟩,a1,b1,c1⟩:=hm;obtain⟨g0,g1,g2,hg⟩:=fields3' rfl fldVer;have hv:=fldVer;rw[hg] at hv;simp only[List.map_cons,List.map_nil,List.cons.injEq,Prod.mk.injEq,and_true] at hv;obtain⟨⟨d0,e0,i0⟩,⟨d1,e1,i1⟩,d2,e2,i2⟩:=hv;refine⟨_,keyStruct2 undSel ktSelAll size3 (Wm (p,a,b,c)) rfl (by rw[cellsSel];rfl) ?_ [[.string p],[.int .i64 a,.int .i64 b,.int .i64 c]] (fun d=>?_)⟩
 ·rw[hf]
  simp[a0,a1]
 ·rw[hf]
  have u1:=Ny underlying9 (d+1) _ hs;have u2:=Wf underlying3 d a w2;have u3:=Wf underlying3 d b w3;have u4:=Wf underlying3 d c w4;have hn':(prog.fieldsOf 36).all (·.name != "_")=true:=by rw[←Array.all_toList,hg];simp[d0,d1,d2]
  have uv:prog.keyLits (d+1+1) 36 [.int .i64 a,.int .i64 b,.int .i64 c]=some [.int .i64 a,.int .i64 b,.int .i64 c]:=by unfold Program.keyLits;rw[undVer];dsimp only;rw[if_pos ⟨by rw[cellsVer];rfl,hn'⟩,hg];simp[List.mapM_cons,e0,e1,e2,i0,i1,i2,cellsInt,u2,u3,u4]
  simp[List.mapM_cons,b0,b1,c0,c1,cellsVer,cellsStr,Wm,u1,uv]
noncomputable def G2 (s:Zy):Lit:=(keyOf prog 38 (Ot s)).getD (.bool false)
theorem Db {s:Zy} (h:M0 s):keyOf prog 38 (Ot s)=some (G2 s):=by obtain⟨l,hl⟩:=selKey s h;unfold G2;rw[hl];rfl
theorem selA_inj {s t:Zy} (h:Ot s=Ot t):s=t:=by obtain⟨a,b,c,d⟩:=s;obtain⟨a',b',c',d'⟩:=t;unfold Ot at h;injection h with h;have h:=congrArg Array.toList h;simp only[Wm,List.cons.injEq,and_true] at h;obtain⟨h1,h2,h3,h4⟩:=h;rw[str_inj h1,(Value.int.inj h2).2,(Value.int.inj h3).2,(Value.int.inj h4).2]
theorem kSel_inj {s t:Zy} (hs:M0 s) (ht:M0 t) (h:G2 s=G2 t):s=t:=
 selA_inj (Ia.inj (Db hs) (by rw[h];exact Db ht))
def It (M:Lit→Option Value) (X:List Qi) (k:Nat):Prop:=∀ s,M0 s→M (G2 s)=((X.take k).reverse.find? fun r=>decide (Zg r=s)).map Fa
theorem It.nil (X:List Qi):It (fun _=>none) X 0:=fun s _=>by rw[List.take_zero];rfl
theorem It.put {M:Lit→Option Value} {X:List Qi} {k:Nat} (h:It M X k) {r:Qi} (hr:X[k]?=some r) (ho:M0 (Zg r)):It (Jq M (G2 (Zg r)) (Fa r)) X (k+1):=fun s hs=>by
 rw[Yn hr,List.reverse_append,List.reverse_singleton,List.singleton_append,List.find?_cons]
 by_cases e:Zg r=s
 ·subst e
  rw[Zd,decide_eq_true rfl];rfl
 ·rw[Qz (fun x=>e (kSel_inj hs ho x).symm),decide_eq_false e,h s hs]
theorem Yr:(prog.info? 46).map (fun i=>(i.zero,i.size,i.bytes))=some (some (.agg #[.string ⟨#[]⟩,.int .i64 0,.int .i64 0,.int .i64 0,.slice none 0 0,.string ⟨#[]⟩,.string ⟨#[]⟩,.string ⟨#[]⟩,.bool false]),9,120):=by kernel_rfl
theorem Ff (w:World):(zeroValue 22).run prog w=.ok (.slice none 0 0) w:=by kernel_rfl
theorem size_table:(prog.info? 129).map (·.size)=some 2:=by kernel_rfl
theorem Ip {w:World} {g:Nat} {t:TypeId} {cs:Array Value} (h:Uc w g t cs):w.cell? ⟨g,0,none⟩=cs[0]?∧w.cell? ⟨g,1,none⟩=cs[1]?∧w.cell? ⟨g,2,none⟩=cs[2]?∧w.cell? ⟨g,3,none⟩=cs[3]?∧w.cell? ⟨g,4,none⟩=cs[4]?∧w.cell? ⟨g,5,none⟩=cs[5]?∧w.cell? ⟨g,6,none⟩=cs[6]?∧w.cell? ⟨g,7,none⟩=cs[7]?∧w.cell? ⟨g,8,none⟩=cs[8]?:=⟨h.cell 0,h.cell 1,h.cell 2,h.cell 3,h.cell 4,h.cell 5,h.cell 6,h.cell 7,h.cell 8⟩
theorem Dv {X:List Qi} (h:Gc X=0):∀ r∈X,O1 r:=fun r hr=>by obtain⟨m,-,hok,-⟩:=Wl ((Vj h).2.2 r hr);exact hok
theorem Xt {P:Program} {c:Code} {Q:Exit→Act→World→Prop} {a:Act} {w:World} {α β γ:Type} (S:α→β→γ→World→Prop) {F:α→β→γ→Act}
 (h:c.wp P (fun e a' w'=>e=Exit.normal∧∃ x1 x2 x3,a'=F x1 x2 x3∧S x1 x2 x3 w') a w) (k:∀ x1 x2 x3 w',S x1 x2 x3 w'→Q Exit.normal (F x1 x2 x3) w'):c.wp P Q a w:=
 Code.wp_mono (fun e a w hr=>by obtain⟨rfl,x1,x2,x3,rfl,hs⟩:=hr;exact k _ _ _ _ hs) h
abbrev Ft:Ul→Q3:=grR 46 9 Xi
def TableP (X:List Qi) (w:World) (e:Ending) (w':World):Prop:=∃ b1 b2 n1 n2 M1 M2 R,e=.returned (.tuple #[.agg #[.map (some b1),.map (some b2)],.int .i64 0])∧It M1 X X.length∧Xh M2 R∧Ww (fun _=>true) X X.length R∧St w.heap.size w w' ([Zw 38 b1 n1 M1,Zw 9 b2 n2 M2]++R.map Ft)
theorem Yj (X:List Qi) (v:Value) (iA:Option Addr) (iN iC:Nat) (F:Nat→Prop) (w:World) (h:Qx w F v X) (hs:Wp X) (hX:X.length≤1048576) (hg:Ji w) (hok:Gc X=0):
 Calls prog 62 #[.agg #[v,.slice iA iN iC]] w (TableP X w):=by
 obtain⟨A,c,rfl,hc1,hc2,hr,hq⟩:=id h;have hoX:=Dv hok;have kck:∀ W,Below w.heap.size w W→Calls prog 21 #[.agg #[.slice A X.length c,.slice iA iN iC]] W fun e w'=>e=.returned (.int .i64 0)∧Below W.heap.size W w':=fun W hW=>by have:=Vk X _ (.slice iA iN iC) F W (h.below hW) hs rfl (hg.below hW);rw[hok] at this;exact this
 obtain⟨N,hN⟩:∃ N,X.length=N:=⟨_,rfl⟩;rw[hN] at kck hX ⊢;have y0:=(((((St.nil w).alloc 25 #[.slice A N c,.slice iA iN iC]).alloc 129 #[.map none,.map none]).mpMade 38).mpMade 9).alloc 129 #[.map (some (w.heap.size+1+1)),.map (some (w.heap.size+1+1+1))];simp only[World.size_alloc] at y0;obtain⟨W0,hW0⟩:∃ W,((((w.alloc (.cells #[.slice A N c,.slice iA iN iC] 25)).alloc (.cells #[.map none,.map none] 129)).alloc (.map #[] 0)).alloc (.map #[] 0)).alloc (.cells #[.map (some (w.heap.size+1+1)),.map (some (w.heap.size+1+1+1))] 129)=W:=⟨_,rfl⟩;rw[hW0] at y0;have hmm:=@run_makeMap prog;have HM:=Kd5 hN (fun j r (hj:X[j]?=some r)=>Vo hr hj) hs hq hoX;have kck:=kck W0 y0.below;have x0:=(y0.pk [4]).blk.cell 0;have x1:=(y0.pk [4]).blk.cell 1;have Y0:=Kd y0;clear hN hr hs hq hoX hok y0 h hc1 hc2 hg;go_enter func62,ntmps62;go_wp2_with fail;refine kck.mono ?_;rintro e w1 ⟨rfl,z1⟩;have y1:=Y0.out.under z1;have x0:=(y1.pk [4]).blk.cell 0;have Y1:=Kd y1;clear kck z1 y1 Y0 hmm hW0;go_wp2
 go_loopw [20] (fun i wr=>∃(k n1 n2:Nat) (M1 M2:Lit→Option Value) (R:List Ul),k≤N∧i=.int .i64 k∧n1≤k∧n2≤k∧Hid (It M1 X k∧Xh M2 R∧Ww (fun _=>true) X k R)∧Hid (St w.heap.size w wr ([Qa (w.heap.size+1+1+1+1) 129 #[.map (some (w.heap.size+1+1)),.map (some (w.heap.size+1+1+1))],Zw 9 (w.heap.size+1+1+1) n2 M2,Zw 38 (w.heap.size+1+1) n1 M1,Qa (w.heap.size+1) 129 #[.map none,.map none],Qa w.heap.size 25 #[.slice A N c,.slice iA iN iC]]++R.map Ft))) (fun i _=>N-(intOf i).toNat)
 case atStart=>exact⟨0,0,0,fun _=>none,fun _=>none,[],Nat.zero_le _,rfl,Nat.le_refl _,Nat.le_refl _,Kd ⟨It.nil X,Xh.nil,Ww.nil _ X⟩,Kd (Y1.out.pk [0,1,2,3,4])⟩
 case round=>
  obtain⟨k,n1,n2,M1,M2,R,hk,rfl,hn1,hn2,hR,hst⟩:=hrel
  by_cases hlt:k<N
  ·obtain⟨hN,hcs,hs,hq,hoX⟩:=HM.out
   obtain⟨r,hr⟩:∃ r,X[k]?=some r:=⟨_,List.getElem?_eq_getElem (by omega)⟩;have hrX:=List.mem_of_getElem? hr;obtain⟨b,off,rfl,hbl,ra⟩:=hcs k r hr;have ra:=ra.below hst.out.below hbl;obtain⟨A',n',c',hrv⟩:∃ A n c,r.rv=.slice A n c:=by obtain⟨A,c,M,-,e,-⟩:=hq r hrX;exact⟨A,_,c,e⟩
   have hpl:=(hs r hrX).path;have hks:M0 (Zg r) :=(by have h1:=hoX r hrX;obtain⟨-,-,h2,h3,h4,h5⟩:=Wk h1;unfold O1 Mq at h1;simp only[Bool.and_eq_true] at h1;have:=X7 h1.1;exact⟨hpl,by show _≤r.major∧r.major≤_;omega,by show _≤r.minor∧r.minor≤_;omega,by show _≤r.patch∧r.patch≤_;omega⟩);have hstep:=fun v=>hR.out.2.2.step (q:=fun _=>true) hr rfl v;have htab:=hR.out.1.put hr hks;have hput:=fun v xs=>hR.out.2.1.put r.path v xs;have hlen:(Hy R r.path).length≤k :=(by rw[hR.out.2.2 r.path];exact Nat.le_trans (List.length_filter_le ..) (by rw[List.length_take];omega));have kkey:=Db hks;have kk:=fun W=>Te r W;have s1:=hst.out.alloc 46 (Xi r).toArray;have s2:=St.takeG (Rs:=Qa wr.heap.size 46 (Xi r).toArray::[Qa (w.heap.size+1+1+1+1) 129 #[.map (some (w.heap.size+1+1)),.map (some (w.heap.size+1+1+1))],Zw 9 (w.heap.size+1+1+1) n2 M2,Zw 38 (w.heap.size+1+1) n1 M1,Qa (w.heap.size+1) 129 #[.map none,.map none],Qa w.heap.size 25 #[.slice (some ⟨b,off,none⟩) N c,.slice iA iN iC]]) s1 hR.out.2.1.1 r.path;have lk:=hR.out.2.1.look r.path;have hrow:(Hy R r.path++[r]).flatMap Xi=(Hy R r.path).flatMap Xi++Xi r :=(by rw[List.flatMap_append,List.flatMap_cons,List.flatMap_nil,List.append_nil]);obtain⟨xs,hcp⟩:∃ xs,Hy R r.path=xs:=⟨_,rfl⟩;rw[hcp] at s2 hstep hlen hrow;have hml:r.path.length≤maxLen :=(by unfold maxLen;omega);have HR0:=Kd5 (hR.out.2.1.1) hstep hput htab hrow;obtain⟨a0,a1,a2,a3,a4,a5,a6,a7,a8⟩:=ra;clear hstep hput htab hrow hcs hs hq hoX hN hks hcp hrX hr s1 hpl;obtain⟨pa,ma,mi,pt,rq,rv,ar,ifc,ce,ya⟩:=r;dsimp only at hrv hlen lk s2 a0 a1 a2 a3 a4 a5 a6 a7 a8 kkey kk hml;subst hrv;unfold Fa Xi at kk;unfold Xi at s2;unfold Zg Ot Wm at kkey;dsimp only at kk s2 kkey;generalize curW R pa=v0 at s2 lk;have i0:(0:Int)≤(k:Int):=Int.natCast_nonneg _;have i1:(k:Int)<(N:Int):=Int.ofNat_lt.2 hlt;have KL:=Kd hlt;obtain⟨g7,hg7⟩:∃ q,wr.heap.size=q:=⟨_,rfl⟩;obtain⟨W1,hW1⟩:∃ W,wr.alloc (.cells #[.string ⟨pa.toArray⟩,.int .i64 ma,.int .i64 mi,.int .i64 pt,.slice A' n' c',.string ⟨ar.toArray⟩,.string ⟨ifc.toArray⟩,.string ⟨ce.toArray⟩,.bool ya] 46)=W:=⟨_,rfl⟩;have s2:St w.heap.size w W1 (Qh 46 9 v0 xs.length (xs.flatMap Xi)::Qa g7 46 #[.string ⟨pa.toArray⟩,.int .i64 ma,.int .i64 mi,.int .i64 pt,.slice A' n' c',.string ⟨ar.toArray⟩,.string ⟨ifc.toArray⟩,.string ⟨ce.toArray⟩,.bool ya]::([Qa (w.heap.size+1+1+1+1) 129 #[.map (some (w.heap.size+1+1)),.map (some (w.heap.size+1+1+1))],Zw 9 (w.heap.size+1+1+1) n2 M2,Zw 38 (w.heap.size+1+1) n1 M1,Qa (w.heap.size+1) 129 #[.map none,.map none],Qa w.heap.size 25 #[.slice (some ⟨b,off,none⟩) N c,.slice iA iN iC]]++(Vw R pa).map Ft)) :=(by rw[←hW1,←hg7];exact s2);have S2:=Kd s2;have t0:=(s2.front 2 (by simp)).blk.cell 0;obtain⟨r0,r1,r2,r3,r4,r5,r6,r7,r8⟩:=Ip s2.tail.blk;clear s2;go_wp2_with fail;have hnm:n1<maxLen :=(by unfold maxLen;omega);have f0:∀ W',St w.heap.size w W' [Qa (w.heap.size+1+1+1+1) 129 #[.map (some (w.heap.size+1+1)),.map (some (w.heap.size+1+1+1))],Qa g7 46 #[.string ⟨pa.toArray⟩,.int .i64 ma,.int .i64 mi,.int .i64 pt,.slice A' n' c',.string ⟨ar.toArray⟩,.string ⟨ifc.toArray⟩,.string ⟨ce.toArray⟩,.bool ya]]→(W'.cell? ⟨w.heap.size+1+1+1+1,0,none⟩=some (.map (some (w.heap.size+1+1)))∧W'.cell? ⟨g7,0,none⟩=some (.string ⟨pa.toArray⟩)∧W'.cell? ⟨g7,1,none⟩=some (.int .i64 ma)∧W'.cell? ⟨g7,2,none⟩=some (.int .i64 mi)∧W'.cell? ⟨g7,3,none⟩=some (.int .i64 pt)∧W'.cell? ⟨g7,4,none⟩=some (.slice A' n' c')∧W'.cell? ⟨g7,5,none⟩=some (.string ⟨ar.toArray⟩)∧W'.cell? ⟨g7,6,none⟩=some (.string ⟨ifc.toArray⟩)∧W'.cell? ⟨g7,7,none⟩=some (.string ⟨ce.toArray⟩)∧W'.cell? ⟨g7,8,none⟩=some (.bool ya)):=fun W' hW=>⟨hW.blk.cell 0,Ip hW.tail.blk⟩;have F0:=Kd f0;clear f0;apply Nu (fun w'=>St w.heap.size w w' (Zw 38 (w.heap.size+1+1) (n1+1) (Jq M1 (G2 (pa,ma,mi,pt)) (.agg #[.string ⟨pa.toArray⟩,.int .i64 ma,.int .i64 mi,.int .i64 pt,.slice A' n' c',.string ⟨ar.toArray⟩,.string ⟨ifc.toArray⟩,.string ⟨ce.toArray⟩,.bool ya]))::Qh 46 9 v0 xs.length (xs.flatMap Xi)::Qa g7 46 #[.string ⟨pa.toArray⟩,.int .i64 ma,.int .i64 mi,.int .i64 pt,.slice A' n' c',.string ⟨ar.toArray⟩,.string ⟨ifc.toArray⟩,.string ⟨ce.toArray⟩,.bool ya]::Qa (w.heap.size+1+1+1+1) 129 #[.map (some (w.heap.size+1+1)),.map (some (w.heap.size+1+1+1))]::Zw 9 (w.heap.size+1+1+1) n2 M2::Qa (w.heap.size+1) 129 #[.map none,.map none]::Qa w.heap.size 25 #[.slice (some ⟨b,off,none⟩) N c,.slice iA iN iC]::(Vw R pa).map Ft))
   case h=>
    refine wp_region_noPanic ?_;refine wp_region_held_drew (S:=(fun W'=>W'.cell? ⟨w.heap.size+1+1+1+1,0,none⟩=some (.map (some (w.heap.size+1+1)))∧W'.cell? ⟨g7,0,none⟩=some (.string ⟨pa.toArray⟩)∧W'.cell? ⟨g7,1,none⟩=some (.int .i64 ma)∧W'.cell? ⟨g7,2,none⟩=some (.int .i64 mi)∧W'.cell? ⟨g7,3,none⟩=some (.int .i64 pt)∧W'.cell? ⟨g7,4,none⟩=some (.slice A' n' c')∧W'.cell? ⟨g7,5,none⟩=some (.string ⟨ar.toArray⟩)∧W'.cell? ⟨g7,6,none⟩=some (.string ⟨ifc.toArray⟩)∧W'.cell? ⟨g7,7,none⟩=some (.string ⟨ce.toArray⟩)∧W'.cell? ⟨g7,8,none⟩=some (.bool ya))) (by kernel_rfl) ?_ (fun hH0=>?_)
    ·exact F0.out _ (S2.out.drew.pk [2,1])
    refine tk 0 24 hH0 ?_;refine tk 1 25 hH0 ?_;refine tk 2 26 hH0 ?_;refine tk 4 28 hH0 ?_;refine Zk [3] ?_;refine an 27 fun K hK=>?_
    go_simp;(
     with_reducible refine(kk _).mono ?_
     rintro e w2 ⟨rfl,z2⟩;have y2:=S2.out.drew.under z2
     have y3:St w.heap.size w w2 (Zw 38 (w.heap.size+1+1) n1 M1::Qh 46 9 v0 xs.length (xs.flatMap Xi)::Qa g7 46 #[.string ⟨pa.toArray⟩,.int .i64 ma,.int .i64 mi,.int .i64 pt,.slice A' n' c',.string ⟨ar.toArray⟩,.string ⟨ifc.toArray⟩,.string ⟨ce.toArray⟩,.bool ya]::Qa (w.heap.size+1+1+1+1) 129 #[.map (some (w.heap.size+1+1)),.map (some (w.heap.size+1+1+1))]::Zw 9 (w.heap.size+1+1+1) n2 M2::Qa (w.heap.size+1) 129 #[.map none,.map none]::Qa w.heap.size 25 #[.slice (some ⟨b,off,none⟩) N c,.slice iA iN iC]::(Vw R pa).map Ft):=y2.front 4 (by simp));go_wp2_with fail
    refine hK.out _ _ ?_ (fun hH1=>?_)
    ·exact F0.out _ (y2.pk [2,1])
    clear hK K hH0
    try simp only[pu]
    refine Zk [5] ?_;refine az fun K hK=>?_
    (
     refine X4 126 y3 Ia underlying126 rfl _ _ _ rfl (by rfl) hnm (by rfl) (by rfl) kkey ?_
     intro w6 h9)
    refine hK.out _ _ ?_ (fun hH2=>?_)
    ·exact F0.out _ (h9.pk [3,2])
    clear hK K hH1
    try simp only[pu]
    refine dn ?_ _
    all_goals(refine NoPanic.normal ?_)
    all_goals first
     |exact⟨rfl,rfl,h9⟩
     |exact⟨rfl,rfl,h9.drew⟩
   case k=>
    rintro w3 y3;have z3:St w.heap.size w w3 (Qh 46 9 v0 xs.length (xs.flatMap Xi)::Zw 38 (w.heap.size+1+1) (n1+1) (Jq M1 (G2 (pa,ma,mi,pt)) (.agg #[.string ⟨pa.toArray⟩,.int .i64 ma,.int .i64 mi,.int .i64 pt,.slice A' n' c',.string ⟨ar.toArray⟩,.string ⟨ifc.toArray⟩,.string ⟨ce.toArray⟩,.bool ya]))::Qa g7 46 #[.string ⟨pa.toArray⟩,.int .i64 ma,.int .i64 mi,.int .i64 pt,.slice A' n' c',.string ⟨ar.toArray⟩,.string ⟨ifc.toArray⟩,.string ⟨ce.toArray⟩,.bool ya]::Qa (w.heap.size+1+1+1+1) 129 #[.map (some (w.heap.size+1+1)),.map (some (w.heap.size+1+1+1))]::Zw 9 (w.heap.size+1+1+1) n2 M2::Qa (w.heap.size+1) 129 #[.map none,.map none]::Qa w.heap.size 25 #[.slice (some ⟨b,off,none⟩) N c,.slice iA iN iC]::(Vw R pa).map Ft):=y3.front 1 (by simp);have hl:∀ W',St w.heap.size w W' [Zw 9 (w.heap.size+1+1+1) n2 M2]→(Instr.lookup 127 (.map (some (w.heap.size+1+1+1))) (.string ⟨pa.toArray⟩) false).run prog W'=.ok v0 W':=fun W' ht=>by have:=ht.mp.look J8 underlying127 (Ff W') (Zb pa hml);rw[lk] at this;exact this
    have f0:∀ W',St w.heap.size w W' [Qa (w.heap.size+1+1+1+1) 129 #[.map (some (w.heap.size+1+1)),.map (some (w.heap.size+1+1+1))],Qa g7 46 #[.string ⟨pa.toArray⟩,.int .i64 ma,.int .i64 mi,.int .i64 pt,.slice A' n' c',.string ⟨ar.toArray⟩,.string ⟨ifc.toArray⟩,.string ⟨ce.toArray⟩,.bool ya]]→(W'.cell? ⟨w.heap.size+1+1+1+1,1,none⟩=some (.map (some (w.heap.size+1+1+1)))∧W'.cell? ⟨g7,0,none⟩=some (.string ⟨pa.toArray⟩)∧W'.cell? ⟨g7,1,none⟩=some (.int .i64 ma)∧W'.cell? ⟨g7,2,none⟩=some (.int .i64 mi)∧W'.cell? ⟨g7,3,none⟩=some (.int .i64 pt)∧W'.cell? ⟨g7,4,none⟩=some (.slice A' n' c')∧W'.cell? ⟨g7,5,none⟩=some (.string ⟨ar.toArray⟩)∧W'.cell? ⟨g7,6,none⟩=some (.string ⟨ifc.toArray⟩)∧W'.cell? ⟨g7,7,none⟩=some (.string ⟨ce.toArray⟩)∧W'.cell? ⟨g7,8,none⟩=some (.bool ya)):=fun W' hW=>⟨hW.blk.cell 1,Ip hW.tail.blk⟩;have F0:=Kd f0;have l1:=hl _ (z3.pk [4]);have l2:=hl _ (z3.drew.pk [4]);have l3:=hl _ ((z3.alloc0 (.cells #[.string ⟨pa.toArray⟩,.int .i64 ma,.int .i64 mi,.int .i64 pt,.slice A' n' c',.string ⟨ar.toArray⟩,.string ⟨ifc.toArray⟩,.string ⟨ce.toArray⟩,.bool ya] 46)).pk [4]);have l4:=hl _ ((z3.alloc0 (.cells #[.string ⟨pa.toArray⟩,.int .i64 ma,.int .i64 mi,.int .i64 pt,.slice A' n' c',.string ⟨ar.toArray⟩,.string ⟨ifc.toArray⟩,.string ⟨ce.toArray⟩,.bool ya] 46)).drew.pk [4]);have l5:=hl _ ((z3.drew.alloc0 (.cells #[.string ⟨pa.toArray⟩,.int .i64 ma,.int .i64 mi,.int .i64 pt,.slice A' n' c',.string ⟨ar.toArray⟩,.string ⟨ifc.toArray⟩,.string ⟨ce.toArray⟩,.bool ya] 46)).drew.pk [4]);have l6:=hl _ ((z3.drew.alloc0 (.cells #[.string ⟨pa.toArray⟩,.int .i64 ma,.int .i64 mi,.int .i64 pt,.slice A' n' c',.string ⟨ar.toArray⟩,.string ⟨ifc.toArray⟩,.string ⟨ce.toArray⟩,.bool ya] 46)).pk [4]);have Z3:=Kd z3;have hone:∀ u∈(#[.string ⟨pa.toArray⟩,.int .i64 ma,.int .i64 mi,.int .i64 pt,.slice A' n' c',.string ⟨ar.toArray⟩,.string ⟨ifc.toArray⟩,.string ⟨ce.toArray⟩,.bool ya]:Array Value).toList,u.oneCell'=true:=fun u hu=>by simp at hu;rcases hu with rfl|rfl|rfl|rfl|rfl|rfl|rfl|rfl|rfl<;>rfl
    have q1:xs.length+1≤maxLen :=(by unfold maxLen;omega);have q2:(xs.length+1)*120≤140737488355328 :=(by omega);have hnm2:n2<maxLen :=(by unfold maxLen;omega);have e0:=(z3.pk [3]).blk.cell 1;clear f0 y3 z3 hl S2 t0 r0 r1 r2 r3 r4 r5 r6 r7 r8;go_wp2_with fail;apply Xt (fun (pG gg cap:Nat) w'=>St w.heap.size w w' (Zw 9 (w.heap.size+1+1+1) (n2+1) (Jq M2 (.string pa) (.slice (some ⟨gg,0,none⟩) (xs.length+1) cap))::Qh 46 9 (.slice (some ⟨gg,0,none⟩) (xs.length+1) cap) (xs.length+1) (xs.flatMap Xi++[.string ⟨pa.toArray⟩,.int .i64 ma,.int .i64 mi,.int .i64 pt,.slice A' n' c',.string ⟨ar.toArray⟩,.string ⟨ifc.toArray⟩,.string ⟨ce.toArray⟩,.bool ya])::Zw 38 (w.heap.size+1+1) (n1+1) (Jq M1 (G2 (pa,ma,mi,pt)) (.agg #[.string ⟨pa.toArray⟩,.int .i64 ma,.int .i64 mi,.int .i64 pt,.slice A' n' c',.string ⟨ar.toArray⟩,.string ⟨ifc.toArray⟩,.string ⟨ce.toArray⟩,.bool ya]))::Qa g7 46 #[.string ⟨pa.toArray⟩,.int .i64 ma,.int .i64 mi,.int .i64 pt,.slice A' n' c',.string ⟨ar.toArray⟩,.string ⟨ifc.toArray⟩,.string ⟨ce.toArray⟩,.bool ya]::Qa (w.heap.size+1+1+1+1) 129 #[.map (some (w.heap.size+1+1)),.map (some (w.heap.size+1+1+1))]::Qa (w.heap.size+1) 129 #[.map none,.map none]::Qa w.heap.size 25 #[.slice (some ⟨b,off,none⟩) N c,.slice iA iN iC]::(Vw R pa).map Ft))
    case h=>
     refine wp_region_noPanic ?_;refine wp_region_held_drew (S:=(fun W'=>W'.cell? ⟨w.heap.size+1+1+1+1,1,none⟩=some (.map (some (w.heap.size+1+1+1)))∧W'.cell? ⟨g7,0,none⟩=some (.string ⟨pa.toArray⟩)∧W'.cell? ⟨g7,1,none⟩=some (.int .i64 ma)∧W'.cell? ⟨g7,2,none⟩=some (.int .i64 mi)∧W'.cell? ⟨g7,3,none⟩=some (.int .i64 pt)∧W'.cell? ⟨g7,4,none⟩=some (.slice A' n' c')∧W'.cell? ⟨g7,5,none⟩=some (.string ⟨ar.toArray⟩)∧W'.cell? ⟨g7,6,none⟩=some (.string ⟨ifc.toArray⟩)∧W'.cell? ⟨g7,7,none⟩=some (.string ⟨ce.toArray⟩)∧W'.cell? ⟨g7,8,none⟩=some (.bool ya))) (by kernel_rfl) ?_ (fun hH0=>?_)
     ·exact F0.out _ (Z3.out.drew.pk [3,2])
     refine tk 0 29 hH0 ?_;refine tk 1 30 hH0 ?_;refine tk 2 31 hH0 ?_;refine tk 3 32 hH0 ?_;refine tk 4 33 hH0 ?_;refine tk 5 34 hH0 ?_;refine tk 6 35 hH0 ?_;refine tk 7 36 hH0 ?_;refine tk 9 38 hH0 ?_;refine Zk [8,10] ?_;refine ad 37 (fun K hK=>?_) ?_;go_simp;refine hK.out _ _ ?_ (fun hH1=>?_)
     ·exact F0.out _ (Z3.out.drew.pk [3,2])
     clear hK K hH0
     try simp only[pu]
     refine Zk [10] ?_;refine an 39 fun K hK=>?_;go_simp;refine hK.out _ _ ?_ (fun hH2=>?_)
     ·exact F0.out _ ((Z3.out.alloc0 _).drew.pk [3,2])
     clear hK K hH1
     try simp only[pu]
     refine Zk [11] ?_;refine an 40 fun K hK=>?_
     (
      refine Ee 22 (te:=46) #[.string ⟨pa.toArray⟩,.int .i64 ma,.int .i64 mi,.int .i64 pt,.slice A' n' c',.string ⟨ar.toArray⟩,.string ⟨ifc.toArray⟩,.string ⟨ce.toArray⟩,.bool ya] Z3.out underlying22 Yr rfl (by decide) _ _ (by rfl) (by rfl) (by rfl) (by rfl) rfl hone q1 q2 ?_;intro gg cap w5 h8
      have h8':St w.heap.size w w5 (Zw 9 (w.heap.size+1+1+1) n2 M2::Qh 46 9 (.slice (some ⟨gg,0,none⟩) (xs.length+1) cap) (xs.length+1) (xs.flatMap Xi++[.string ⟨pa.toArray⟩,.int .i64 ma,.int .i64 mi,.int .i64 pt,.slice A' n' c',.string ⟨ar.toArray⟩,.string ⟨ifc.toArray⟩,.string ⟨ce.toArray⟩,.bool ya])::Zw 38 (w.heap.size+1+1) (n1+1) (Jq M1 (G2 (pa,ma,mi,pt)) (.agg #[.string ⟨pa.toArray⟩,.int .i64 ma,.int .i64 mi,.int .i64 pt,.slice A' n' c',.string ⟨ar.toArray⟩,.string ⟨ifc.toArray⟩,.string ⟨ce.toArray⟩,.bool ya]))::Qa g7 46 #[.string ⟨pa.toArray⟩,.int .i64 ma,.int .i64 mi,.int .i64 pt,.slice A' n' c',.string ⟨ar.toArray⟩,.string ⟨ifc.toArray⟩,.string ⟨ce.toArray⟩,.bool ya]::Qa (w.heap.size+1+1+1+1) 129 #[.map (some (w.heap.size+1+1)),.map (some (w.heap.size+1+1+1))]::Qa (w.heap.size+1) 129 #[.map none,.map none]::Qa w.heap.size 25 #[.slice (some ⟨b,off,none⟩) N c,.slice iA iN iC]::(Vw R pa).map Ft):=h8.front 4 (by simp))
     refine hK.out _ _ ?_ (fun hH3=>?_)
     ·exact F0.out _ (h8.pk [3,2])
     clear hK K hH2
     try simp only[pu]
     refine Zk [12] ?_;refine az fun K hK=>?_
     (
      refine X4 127 h8' J8 underlying127 rfl _ _ _ rfl (by rfl) hnm2 (by rfl) (by rfl) (Zb pa hml) ?_
      intro w6 h9)
     refine hK.out _ _ ?_ (fun hH4=>?_)
     ·exact F0.out _ (h9.pk [4,3])
     clear hK K hH3
     try simp only[pu]
     refine dn ?_ _;rotate_left 1;refine an 39 fun K hK=>?_;go_simp;refine hK.out _ _ ?_ (fun hH5=>?_)
     ·exact F0.out _ ((Z3.out.alloc0 _).drew.pk [3,2])
     clear hK K hH0
     try simp only[pu]
     refine Zk [8] ?_;refine an 37 fun K hK=>?_;go_simp;refine hK.out _ _ ?_ (fun hH6=>?_)
     ·exact F0.out _ ((Z3.out.alloc0 _).drew.pk [3,2])
     clear hK K hH5
     try simp only[pu]
     refine Zk [11] ?_;refine an 40 fun K hK=>?_
     (
      refine Ee 22 (te:=46) #[.string ⟨pa.toArray⟩,.int .i64 ma,.int .i64 mi,.int .i64 pt,.slice A' n' c',.string ⟨ar.toArray⟩,.string ⟨ifc.toArray⟩,.string ⟨ce.toArray⟩,.bool ya] Z3.out underlying22 Yr rfl (by decide) _ _ (by rfl) (by rfl) (by rfl) (by rfl) rfl hone q1 q2 ?_;intro gg cap w5 h8
      have h8':St w.heap.size w w5 (Zw 9 (w.heap.size+1+1+1) n2 M2::Qh 46 9 (.slice (some ⟨gg,0,none⟩) (xs.length+1) cap) (xs.length+1) (xs.flatMap Xi++[.string ⟨pa.toArray⟩,.int .i64 ma,.int .i64 mi,.int .i64 pt,.slice A' n' c',.string ⟨ar.toArray⟩,.string ⟨ifc.toArray⟩,.string ⟨ce.toArray⟩,.bool ya])::Zw 38 (w.heap.size+1+1) (n1+1) (Jq M1 (G2 (pa,ma,mi,pt)) (.agg #[.string ⟨pa.toArray⟩,.int .i64 ma,.int .i64 mi,.int .i64 pt,.slice A' n' c',.string ⟨ar.toArray⟩,.string ⟨ifc.toArray⟩,.string ⟨ce.toArray⟩,.bool ya]))::Qa g7 46 #[.string ⟨pa.toArray⟩,.int .i64 ma,.int .i64 mi,.int .i64 pt,.slice A' n' c',.string ⟨ar.toArray⟩,.string ⟨ifc.toArray⟩,.string ⟨ce.toArray⟩,.bool ya]::Qa (w.heap.size+1+1+1+1) 129 #[.map (some (w.heap.size+1+1)),.map (some (w.heap.size+1+1+1))]::Qa (w.heap.size+1) 129 #[.map none,.map none]::Qa w.heap.size 25 #[.slice (some ⟨b,off,none⟩) N c,.slice iA iN iC]::(Vw R pa).map Ft):=h8.front 4 (by simp))
     refine hK.out _ _ ?_ (fun hH7=>?_)
     ·exact F0.out _ (h8.pk [3,2])
     clear hK K hH6
     try simp only[pu]
     refine Zk [12] ?_;refine az fun K hK=>?_
     (
      refine X4 127 h8' J8 underlying127 rfl _ _ _ rfl (by rfl) hnm2 (by rfl) (by rfl) (Zb pa hml) ?_
      intro w6 h9)
     refine hK.out _ _ ?_ (fun hH8=>?_)
     ·exact F0.out _ (h9.pk [4,3])
     clear hK K hH7
     try simp only[pu]
     refine dn ?_ _
     all_goals(refine NoPanic.normal ?_)
     all_goals
      obtain⟨pG,hpG⟩:∃ q,w3.heap.size=q:=⟨_,rfl⟩
      try rw[hpG]
      first
       |exact⟨rfl,pG,gg,cap,rfl,h9⟩
       |exact⟨rfl,pG,gg,cap,rfl,h9.drew⟩
    case k=>
     rintro pG gg cap w4 y4;obtain⟨hpw,hstep,hput,htab,hrow⟩:=HR0.out;have hz:(xs++[(⟨pa,ma,mi,pt,rq,.slice A' n' c',ar,ifc,ce,ya⟩:Qi)]).length=xs.length+1 :=(by rw[List.length_append];rfl);rw[show xs.flatMap Xi++[.string ⟨pa.toArray⟩,.int .i64 ma,.int .i64 mi,.int .i64 pt,.slice A' n' c',.string ⟨ar.toArray⟩,.string ⟨ifc.toArray⟩,.string ⟨ce.toArray⟩,.bool ya]=(xs++[(⟨pa,ma,mi,pt,rq,.slice A' n' c',ar,ifc,ce,ya⟩:Qi)]).flatMap Xi from hrow.symm,←hz] at y4;have y5:=St.putG (p:=pa) (Rs:=[Zw 9 (w.heap.size+1+1+1) (n2+1) (Jq M2 (.string pa) (.slice (some ⟨gg,0,none⟩) ((xs++[(⟨pa,ma,mi,pt,rq,.slice A' n' c',ar,ifc,ce,ya⟩:Qi)]).length) cap)),Zw 38 (w.heap.size+1+1) (n1+1) (Jq M1 (G2 (pa,ma,mi,pt)) (.agg #[.string ⟨pa.toArray⟩,.int .i64 ma,.int .i64 mi,.int .i64 pt,.slice A' n' c',.string ⟨ar.toArray⟩,.string ⟨ifc.toArray⟩,.string ⟨ce.toArray⟩,.bool ya])),Qa g7 46 #[.string ⟨pa.toArray⟩,.int .i64 ma,.int .i64 mi,.int .i64 pt,.slice A' n' c',.string ⟨ar.toArray⟩,.string ⟨ifc.toArray⟩,.string ⟨ce.toArray⟩,.bool ya],Qa (w.heap.size+1+1+1+1) 129 #[.map (some (w.heap.size+1+1)),.map (some (w.heap.size+1+1+1))],Qa (w.heap.size+1) 129 #[.map none,.map none],Qa w.heap.size 25 #[.slice (some ⟨b,off,none⟩) N c,.slice iA iN iC]]) (y4.front 1 (by simp));have y6:=(y5.front 2 (by simp)).tail;have y7:=y6.front 2 (by simp);have Y7:=Kd y7;clear y4 y5 y6 y7 l1 l2 l3 l4 l5 l6 e0 hone q1 q2 hnm2;go_wp2
     go_roundw
     case rel=>exact⟨k+1,n1+1,n2+1,_,_,(⟨pa,_,xs++[(⟨pa,ma,mi,pt,rq,.slice A' n' c',ar,ifc,ce,ya⟩:Qi)]⟩:Ul)::Vw R pa,Nat.succ_le_of_lt KL.out,by go_num,by omega,by omega,Kd ⟨htab,hput _ _,hstep _⟩,Kd Y7.out⟩
     case measure=>have:=KL.out;simp[intOf];omega
  ·obtain rfl:k=N:=Nat.le_antisymm hk (Nat.le_of_not_lt hlt)
   have hge:decide ((k:Int)<(k:Int))=false :=(by simp);have y1:St w.heap.size w wr (Qa (w.heap.size+1) 129 #[.map none,.map none]::Qa (w.heap.size+1+1+1+1) 129 #[.map (some (w.heap.size+1+1)),.map (some (w.heap.size+1+1+1))]::Zw 9 (w.heap.size+1+1+1) n2 M2::Zw 38 (w.heap.size+1+1) n1 M1::Qa w.heap.size 25 #[.slice A k c,.slice iA iN iC]::R.map Ft):=hst.out.front 3 (by simp);have t0:=(y1.front 1 (by simp)).blk.cell 0;have t1:=(y1.front 1 (by simp)).blk.cell 1;have u0:=y1.blk.cell 0;have u1:=y1.blk.cell 1;have f0:=y1.blk.frozen 0;have f1:=y1.blk.frozen 1;have y2:=(y1.set_ 0 (.map (some (w.heap.size+1+1)))).set_ 1 (.map (some (w.heap.size+1+1+1)));simp only[List.setIfInBounds_toArray,List.set_cons_zero,List.set_cons_succ] at y2;have Y2:=Kd y2;clear y1 y2;go_wp2;refine bodyPost_ret (Jv rfl _ _ _ _ _ _ _ rfl Y2.out.blk underlying129 rfl size_table) rfl ?_;have hN:=HM.out.1;refine⟨_,_,n1,n2,M1,M2,R,rfl,by rw[hN];exact hR.out.1,hR.out.2.1,by rw[hN];exact hR.out.2.2,?_⟩;have y3:=Y2.out.tail.tail.front 2 (by simp);exact y3.tail.swap
theorem Nz (r:Qi) (w:World) (h:O1 r) (hc:r.rv.cells.size=1):Calls prog 127 #[Fa r] w fun e w'=>e=.returned (.int .i64 (Jt r))∧Below w.heap.size w w':=by obtain⟨pa,ma,mi,pt,rq,rv,ar,ifc,ce,ya⟩:=r;unfold Fa Xi Jt;unfold O1 at h;dsimp only at h hc ⊢;have k:=fun W=>Z6 ma mi pt W h;obtain⟨W0,hW0⟩:∃ W0,w.alloc (.cells #[.string ⟨pa.toArray⟩,.int .i64 ma,.int .i64 mi,.int .i64 pt,rv,.string ⟨ar.toArray⟩,.string ⟨ifc.toArray⟩,.string ⟨ce.toArray⟩,.bool ya] 46)=W0:=⟨_,rfl⟩;have y0:=(St.nil w).alloc 46 #[.string ⟨pa.toArray⟩,.int .i64 ma,.int .i64 mi,.int .i64 pt,rv,.string ⟨ar.toArray⟩,.string ⟨ifc.toArray⟩,.string ⟨ce.toArray⟩,.bool ya];rw[hW0] at y0;have x1:=y0.blk.cell 1;have x2:=y0.blk.cell 2;have x3:=y0.blk.cell 3;have Z0:=Kd y0.below;clear y0 h;generalize 1000*mi+pt=pl at k ⊢;go_enter func127,ntmps127;go_wp2_with fail;refine(k W0).mono ?_;rintro e w1 ⟨rfl,z1⟩;have Z1:=Kd (Z0.out.trans (z1.mono Z0.out.size));clear k z1;go_wp2;go_ret;exact⟨rfl,Z1.out⟩
def Kr (xs:List Qi) (j:Nat):List Tm.Sp:=((xs.take j).filter fun r=>!r.yank).map fun r=>(Jt r,Jt r+1)
theorem Cj (xs:List Qi) (j:Nat):(Kr xs j).length≤j:=by unfold Kr;rw[List.length_map];exact Nat.le_trans (List.length_filter_le ..) (by rw[List.length_take];omega)
theorem outS_skip {xs:List Qi} {j:Nat} {r:Qi} (hr:xs[j]?=some r) (hy:r.yank=true):Kr xs (j+1)=Kr xs j:=by unfold Kr;rw[Yn hr,List.filter_append,List.filter_cons,List.filter_nil,hy];simp
theorem outS_step {xs:List Qi} {j:Nat} {r:Qi} (hr:xs[j]?=some r) (hy:r.yank=false):Kr xs (j+1)=Kr xs j++[(Jt r,Jt r+1)]:=by unfold Kr;rw[Yn hr,List.filter_append,List.filter_cons,List.filter_nil,hy];simp
theorem outS_all (X:List Qi) (p:Tm.Qk):Tm.Q9 (Kr (X.filter fun r=>r.path==p&&true) (X.filter fun r=>r.path==p&&true).length)=Tm.Qy (X.map Qf) p:=by
 unfold Kr Tm.Qy;rw[List.take_length,←Up,List.map_map,List.filter_filter]
 congr 2
 unfold Vb
 congr 1
 funext r
 rw[Bool.and_true,Bool.and_comm]
theorem rl_flat:∀ X:List Qi,(X.flatMap Xi).length=X.length*9
 |[]=>rfl
 |r::X=>by rw[List.flatMap_cons,List.length_append,rl_flat X,List.length_cons,Nat.succ_mul,Nat.add_comm];rfl
theorem St.lookRow {lo:Nat} {w0 w:World} {Rs:List Q3} {R:List Ul} (h:St lo w0 w (Rs++R.map Ft)) {M:Lit→Option Value} (hM:Xh M R) {q:Qi→Bool} {X:List Qi} (hX:Ww q X X.length R) (p:Tm.Qk):
 ∃ A c,(M (.string p)).getD (.slice none 0 0)=.slice A (X.filter fun r=>r.path==p&&q r).length c∧(X.filter fun r=>r.path==p&&q r).length≤c∧c≤maxLen∧St lo w0 w (Xl A ((X.filter fun r=>r.path==p&&q r).flatMap Xi)::Rs):=by
 have y:=h.takeG hM.1 p;have e:=hX p;rw[List.take_length] at e;rw[e] at y;obtain⟨A,c,hv,h1,h2⟩:=Q4 y.own;rw[hM.look p,hv];rw[hv] at y;exact⟨A,c,rfl,h1,h2,⟨y.below,y.base,(St.quRead y.toQu (rl_flat _)).held.cons fun V hV=>(Zz.parts (Rs:=(Vw R p).map Ft) hV).elim fun F hF=>hF.elim fun V' h=>h.1.mono fun k hk=>(h.2.2.1 k hk).1⟩⟩
theorem Se:∀ s:List Tm.Sp,(s.flatMap G9).length=s.length*2
 |[]=>rfl
 |r::X=>by rw[List.flatMap_cons,List.length_append,Se X,List.length_cons,Nat.succ_mul,Nat.add_comm];rfl
theorem St.setQu {lo:Nat} {w0 w:World} {Rs:List Q3} {A:Option Addr} {c:Nat} {s:List Tm.Sp} (h:St lo w0 w (Ja 2 (.slice A s.length c) s.length (s.flatMap G9)::Rs)):Qr w (fun k=>lo≤k) (.slice A s.length c) s:=by obtain⟨A',c',e,h1,h2⟩:=h.qu_form;obtain⟨-,-,rfl⟩:=Value.slice.inj e;exact⟨A,c,rfl,h1,h2,h.quRd (Se s)⟩
theorem avail_spec (X:List Qi) (v:Value) (iA:Option Addr) (iN iC:Nat) (F:Nat→Prop) (p:Tm.Qk) (w:World) (h:Qx w F v X) (hs:Wp X) (hX:X.length≤1048576) (hg:Ji w) (hok:Gc X=0) (hp:p.length≤maxLen):
 Calls prog 92 #[.agg #[v,.slice iA iN iC],.string ⟨p.toArray⟩] w fun e w'=>∃ v',e=.returned v'∧Below w.heap.size w w'∧Qr w' (fun k=>w.heap.size≤k) v' (Tm.Qy (X.map Qf) p):=by
 obtain⟨A0,c0,rfl,-,-,-,hq⟩:=id h;have hoX:=Dv hok;have y0:=(St.nil w).alloc 25 #[.slice A0 X.length c0,.slice iA iN iC];have kt:=fun W (hW:Below w.heap.size w W)=>Yj X _ iA iN iC F W (h.below hW) hs hX (hg.below hW) hok;obtain⟨N,hN⟩:∃ N,X.length=N:=⟨_,rfl⟩;rw[hN] at kt y0;obtain⟨W0,hW0⟩:∃ W,w.alloc (.cells #[.slice A0 N c0,.slice iA iN iC] 25)=W:=⟨_,rfl⟩;rw[hW0] at y0;have kt:=kt W0 y0.below;have x0:=y0.blk.cell 0;have x1:=y0.blk.cell 1;have HM:=Kd4 hN hX hq hoX;have Y0:=Kd y0;have hpm:=Zb p hp;rw[hN];clear h hs hX hg hok hq hoX hN y0 hp;go_enter func92,ntmps92;go_wp2_with fail;refine kt.mono ?_;rintro e w1 ⟨b1,b2,n1,n2,M1,M2,R,rfl,-,hM2,hRX,y1⟩;have y2:St w.heap.size w w1 (([Qa w.heap.size 25 #[.slice A0 N c0,.slice iA iN iC],Zw 38 b1 n1 M1,Zw 9 b2 n2 M2]:List Q3)++R.map Ft):=(Y0.out.graft y1).permR List.perm_append_comm;obtain⟨A,c,elk,hc1,hc2,y3⟩:=y2.lookRow hM2 hRX p;have hall:=outS_all X p;have hlX:(X.filter fun r=>r.path==p&&true).length≤X.length:=List.length_filter_le ..;have hsub:∀ r∈X.filter fun r=>r.path==p&&true,r∈X:=fun r hr=>(List.mem_filter.1 hr).1;generalize (X.filter fun r=>r.path==p&&true)=xs at elk hc1 y3 hall hlX hsub;obtain⟨n,hn⟩:∃ n,xs.length=n:=⟨_,rfl⟩;rw[hn] at elk hc1 hall hlX;have y4:=y3.alloc 129 #[.map (some b1),.map (some b2)];have lk:=(y4.front 4 (by simp)).mp.look J8 underlying127 (Ff _) hpm;rw[elk] at lk;have hnm:n≤1048576:=by have:=HM.out.2.1;have:=HM.out.1;omega
 have HX:=Kd4 hn hall hsub hnm;have YR:=Kd ((y4.front 1 (by simp)).quNil 2 79);have hnn:n≤9223372036854775807:=by omega
 clear kt y1 y2 y3 y4 elk hM2 hRX hall hlX hsub hn hc1 hc2 x0 x1 Y0 hW0 hnm;go_wp2;clear lk
 go_loopw [20,7] (fun i o wr=>∃(j:Nat) (oA:Option Addr) (oc:Nat),j≤n∧i=.int .i64 j∧o=.slice oA (Kr xs j).length oc∧Hid (St w.heap.size w wr [Ja 2 (.slice oA (Kr xs j).length oc) (Kr xs j).length ((Kr xs j).flatMap G9),Xl A (xs.flatMap Xi)])) (fun i _ _=>n-(intOf i).toNat)
 case atStart=>exact⟨0,none,0,Nat.zero_le _,rfl,rfl,Kd (YR.out.pk [0,1])⟩
 case round=>
  obtain⟨j,oA,oc,hj,rfl,rfl,hst⟩:=hrel
  by_cases hlt:j<n
  ·obtain⟨hn,hall,hsub,hnm⟩:=HX.out
   obtain⟨r,hr⟩:∃ r,xs[j]?=some r:=⟨_,List.getElem?_eq_getElem (by omega)⟩;have hrX:=hsub r (List.mem_of_getElem? hr);obtain⟨b,off,rfl,hbl,ra⟩:=Vo (hst.out.pk [1]).ro hr;obtain⟨A',n',c',hrv⟩:∃ A n c,r.rv=.slice A n c:=by obtain⟨A,c,M,-,e,-⟩:=HM.out.2.2.1 r hrX;exact⟨A,_,c,e⟩
   have kk:=fun W=>Nz r W (HM.out.2.2.2 r hrX) (by rw[hrv];rfl);obtain⟨p0,p1,-⟩:=Wk (HM.out.2.2.2 r hrX);have hskip:=fun hy=>outS_skip hr hy;have hstep:=fun hy=>outS_step hr hy;have hol:=Cj xs j;have s1:=hst.out.alloc 46 (Xi r).toArray;have hyk:r.yank=true∨r.yank=false :=(by cases r.yank<;>simp);obtain⟨a0,a1,a2,a3,a4,a5,a6,a7,a8⟩:=ra;clear hn hall hsub hnm hr hrX;generalize Jt r=pl at kk p0 p1 hstep;obtain⟨pa,ma,mi,pt,rq,rv,ar,ifc,ce,ya⟩:=r;dsimp only at hrv a0 a1 a2 a3 a4 a5 a6 a7 a8 hskip hstep hyk;subst hrv;unfold Fa Xi at kk;unfold Xi at s1;dsimp only at kk s1;have i0:(0:Int)≤(j:Int):=Int.natCast_nonneg _;have i1:(j:Int)<(n:Int):=Int.ofNat_lt.2 hlt;obtain⟨g9,hg9⟩:∃ q,wr.heap.size=q:=⟨_,rfl⟩;obtain⟨W1,hW1⟩:∃ W,wr.alloc (.cells #[.string ⟨pa.toArray⟩,.int .i64 ma,.int .i64 mi,.int .i64 pt,.slice A' n' c',.string ⟨ar.toArray⟩,.string ⟨ifc.toArray⟩,.string ⟨ce.toArray⟩,.bool ya] 46)=W:=⟨_,rfl⟩;have s1:St w.heap.size w W1 (Qa g9 46 #[.string ⟨pa.toArray⟩,.int .i64 ma,.int .i64 mi,.int .i64 pt,.slice A' n' c',.string ⟨ar.toArray⟩,.string ⟨ifc.toArray⟩,.string ⟨ce.toArray⟩,.bool ya]::[Ja 2 (.slice oA (Kr xs j).length oc) (Kr xs j).length ((Kr xs j).flatMap G9),Xl (some ⟨b,off,none⟩) (xs.flatMap Xi)]) :=(by rw[←hW1,←hg9];exact s1);have HS:=Kd4 hskip hstep hol hlt;clear hskip hstep hol;have KL:=Kd hlt;obtain⟨r0,r1,r2,r3,r4,r5,r6,r7,r8⟩:=Ip s1.blk;rcases hyk with rfl|rfl
   ·have e:=HS.out.1 rfl
    have S1:=Kd s1.tail;clear s1;go_wp2
    go_roundw
    case rel =>refine⟨j+1,oA,oc,Nat.succ_le_of_lt KL.out,by go_num,by rw[e],?_⟩;rw[e];exact S1
    case measure=>have:=KL.out;simp[intOf];omega
   ·have s2:=s1.set_ 8 (.bool false)
    simp only[List.setIfInBounds_toArray,List.set_cons_zero,List.set_cons_succ] at s2;obtain⟨W2,hW2⟩:∃ W2,W1.setCell ⟨g9,8,none⟩ (.bool false)=W2:=⟨_,rfl⟩;rw[hW2] at s2;have e8':=s2.blk.cell 8;have fz:=s1.blk.frozen 8;have f0:∀ W',St w.heap.size w W' [Qa g9 46 #[.string ⟨pa.toArray⟩,.int .i64 ma,.int .i64 mi,.int .i64 pt,.slice A' n' c',.string ⟨ar.toArray⟩,.string ⟨ifc.toArray⟩,.string ⟨ce.toArray⟩,.bool false]]→(W'.cell? ⟨g9,0,none⟩=some (.string ⟨pa.toArray⟩)∧W'.cell? ⟨g9,1,none⟩=some (.int .i64 ma)∧W'.cell? ⟨g9,2,none⟩=some (.int .i64 mi)∧W'.cell? ⟨g9,3,none⟩=some (.int .i64 pt)∧W'.cell? ⟨g9,4,none⟩=some (.slice A' n' c')∧W'.cell? ⟨g9,5,none⟩=some (.string ⟨ar.toArray⟩)∧W'.cell? ⟨g9,6,none⟩=some (.string ⟨ifc.toArray⟩)∧W'.cell? ⟨g9,7,none⟩=some (.string ⟨ce.toArray⟩)∧W'.cell? ⟨g9,8,none⟩=some (.bool false)):=fun W' hW=>Ip hW.blk;have F0:=Kd f0;obtain⟨ol,hol⟩:∃ x,Kr xs j=x:=⟨_,rfl⟩;have he:=HS.out.2.1 rfl;have hle:=HS.out.2.2.1;rw[hol] at s2 he hle ⊢;have S2:=Kd s2;have q1:ol.length+1≤maxLen :=(by have:=HX.out.2.2.2;unfold maxLen;omega);have q2:(ol.length+1)*16≤140737488355328 :=(by have:=HX.out.2.2.2;omega);have hw2:IntKind.i64.wrap (pl+1)=pl+1 :=(by rw[IntKind.wrap_i64];omega);have hw1:wrap64 (pl+1)=pl+1:=IntWalk.wrap64_in _ (by omega);have HE:=Kd he;clear s1 s2 f0 he hle hol;go_wp2_with fail;apply Xt (fun (pG:Nat) (gg:Option Addr) (cap:Nat) w'=>St w.heap.size w w' [Ja 2 (.slice gg (ol.length+1) cap) (ol.length+1) (ol.flatMap G9++[.int .i64 pl,.int .i64 (pl+1)]),Xl (some ⟨b,off,none⟩) (xs.flatMap Xi)])
    case h=>
     have hone:∀ u∈(#[.int .i64 pl,.int .i64 (pl+1)]:Array Value).toList,u.oneCell'=true:=fun u hu=>by simp at hu;rcases hu with rfl|rfl<;>rfl
     refine wp_region_noPanic ?_;refine wp_region_held_drew (S:=(fun W'=>W'.cell? ⟨g9,0,none⟩=some (.string ⟨pa.toArray⟩)∧W'.cell? ⟨g9,1,none⟩=some (.int .i64 ma)∧W'.cell? ⟨g9,2,none⟩=some (.int .i64 mi)∧W'.cell? ⟨g9,3,none⟩=some (.int .i64 pt)∧W'.cell? ⟨g9,4,none⟩=some (.slice A' n' c')∧W'.cell? ⟨g9,5,none⟩=some (.string ⟨ar.toArray⟩)∧W'.cell? ⟨g9,6,none⟩=some (.string ⟨ifc.toArray⟩)∧W'.cell? ⟨g9,7,none⟩=some (.string ⟨ce.toArray⟩)∧W'.cell? ⟨g9,8,none⟩=some (.bool false))) (by kernel_rfl) ?_ (fun hH0=>?_)
     ·exact F0.out _ (S2.out.drew.pk [0])
     refine tk 0 27 hH0 ?_;refine tk 1 28 hH0 ?_;refine tk 3 30 hH0 ?_;refine Zk [2] ?_;refine an 29 fun K hK=>?_
     go_simp;(
      with_reducible refine(kk _).mono ?_
      rintro e wA ⟨rfl,zA⟩
      have yA:=S2.out.drew.under zA);go_wp2_with fail
     refine hK.out _ _ ?_ (fun hH1=>?_)
     ·exact F0.out _ (yA.pk [0])
     clear hK K hH0
     try simp only[pu]
     refine Zk [4] ?_;refine an 31 fun K hK=>?_
     go_simp;(
      with_reducible refine(kk _).mono ?_
      rintro e wB ⟨rfl,zB⟩
      have yB:=(yA.under zB).pk [1,0,2]);go_wp2_with fail
     refine hK.out _ _ ?_ (fun hH2=>?_)
     ·exact F0.out _ (yB.pk [1])
     clear hK K hH1
     try simp only[pu]
     refine tk 5 32 hH2 ?_;refine tk 6 33 hH2 ?_;refine Zk [7] ?_;refine an 34 fun K hK=>?_;go_simp;refine hK.out _ _ ?_ (fun hH3=>?_)
     ·exact F0.out _ ((yB.alloc0 _).pk [1])
     clear hK K hH2
     try simp only[pu]
     refine Zk [8] ?_;refine an 35 fun K hK=>?_
     (
      refine Ut 41 ((yB.alloc 79 #[.int .i64 pl,.int .i64 (pl+1)]).pk [1,2,3,0]) underlying41 Gn rfl (yB.alloc 79 #[.int .i64 pl,.int .i64 (pl+1)]).blkRd (by rfl) (by decide) hone q1 q2 _ _ (by rfl) (by rfl) (by rfl) (by rfl) ?_
      intro A6 c6 w5 h8)
     refine hK.out _ _ ?_ (fun hH4=>?_)
     ·exact F0.out _ (h8.pk [1])
     clear hK K hH3
     try simp only[pu]
     refine tk 9 7 hH4 ?_;refine dn ?_ _
     all_goals(refine NoPanic.normal ?_)
     all_goals
      obtain⟨pG,hpG⟩:∃ q,wB.heap.size=q:=⟨_,rfl⟩
      try rw[hpG]
      first
       |exact⟨rfl,pG,A6,c6,rfl,h8.pk [0,2]⟩
       |exact⟨rfl,pG,A6,c6,rfl,h8.drew.pk [0,2]⟩
    case k=>
     rintro pG gg cap w4 y4;have Y4:=Kd y4;clear y4 e8' fz q1 q2 hw1 hw2 r0 r1 r2 r3 r4 r5 r6 r7 r8;go_wp2
     go_roundw
     case rel =>have he:=HE.out;refine⟨j+1,gg,cap,Nat.succ_le_of_lt KL.out,by go_num,by rw[he,List.length_append];rfl,?_⟩;rw[he,List.length_append,List.flatMap_append];exact Y4
     case measure=>have:=KL.out;simp[intOf];omega
  ·obtain rfl:j=n:=Nat.le_antisymm hj (Nat.le_of_not_lt hlt)
   have hge:decide ((j:Int)<(j:Int))=false :=(by simp);obtain⟨hn,hall,hsub,hnm⟩:=HX.out;have hs:=hst.out.setQu;have hol:=Cj xs j;have kc:=Wh (Kr xs j) _ _ wr hs (by omega);rw[hall] at kc;have Y1:=Kd hst.out.below;have HO:=Kd hst.out.base;clear hn hall hsub hnm hs hol hst HX;go_wp2_with fail;refine kc.mono ?_;rintro e w2 ⟨v',rfl,z2,hv⟩;obtain⟨vA,vn,vc,rfl⟩:=hv.shape;have Z2:=Kd (Y1.out.trans (z2.mono Y1.out.size));have HV:=Kd (hv.mono fun k hk=>Nat.le_trans Y1.out.size hk);clear kc z2 hv;go_wp2;go_ret;exact⟨_,rfl,Z2.out,HV.out⟩
end Go.Proofs.YtiefajiebebgoaaGreatDoor
