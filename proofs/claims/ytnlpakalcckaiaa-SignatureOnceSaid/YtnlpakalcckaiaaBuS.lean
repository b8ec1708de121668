/-
  A strings.Builder of the call's own as a thing that is held: WriteByte, WriteString. Conditions: what is held stays below 2^47 bytes.
-/
import Derived.Test.YtnlpakalcckaiaaBuByte
import Derived.Test.YtnlpakalcckaiaaBase
namespace Go.Proofs.Ytnlpakalcckaiaa
set_option linter.unusedVariables false
open Go.RowKit

/-- the builder in block b, unused or used, with the buffer v that holds l -/
def BuAt (b : Nat) (l : List UInt8) (w : World) (v : Value) : Prop :=
  ∃ p, (p = .pointer none ∨ p = .pointer (some ⟨b, 0, none⟩)) ∧ w.heap[b]? = some (.cells #[p, v] 71 (0, 0)) ∧ w.ownsRowF 0 5 1 v l.length (vals l) ∧ v.ownBlock ≠ some b
def buR (b : Nat) (l : List UInt8) : Res where
  P w F := ∃ v, BuAt b l w v ∧ F b ∧ (∀ k, v.ownBlock = some k → F k) ∧ ∀ k, F k → k < w.heap.size
  lt h := by
    obtain ⟨v, _, _, _, h4⟩ := h
    exact h4
  mod h hm hG := by
    obtain ⟨v, ⟨p, hp, hb, ho, hne⟩, h1, h2, h3⟩ := h
    refine ⟨v, ⟨p, hp, (hm.block b (h3 b h1) (hG b h1)).trans hb, ?_, hne⟩, h1, h2, fun k hk => Nat.lt_of_lt_of_le (h3 k hk) hm.size⟩
    refine ⟨ho.1, ?_⟩
    rcases ho.2 with h4 | ⟨g, cap, cur, fz, rfl, hg, hh, r⟩
    · exact .inl h4
    · exact .inr ⟨g, cap, cur, fz, rfl, hg, (hm.block g (ho.lt g rfl).2 (hG g (h2 g rfl))).trans hh, r⟩
theorem BuAt.bu {B b : Nat} {l : List UInt8} {w : World} {v : Value} (h : BuAt b l w v) (hb : B ≤ b) (hv : ∀ k, v.ownBlock = some k → B ≤ k) : Bu B b l w := by
  obtain ⟨p, hp, h1, h2, h3⟩ := h
  refine Bu.of_parts hp ⟨hb, v, h1, ?_, fun e => h3 e⟩
  rw [vals_length]
  refine ⟨h2.1, ?_⟩
  rcases h2.2 with h4 | ⟨g, cap, cur, fz, rfl, hg, r⟩
  · exact .inl h4
  · exact .inr ⟨g, cap, cur, fz, rfl, hv g rfl, r⟩
/-- where the new slice lies -/
theorem appF_at {P : Program} (w : World) (t ty e : TypeId) (i : TypeInfo) (z : Value) (ht : P.underlying t = some (.slice e)) (hi : P.info? e = some i) (hz : i.zero = some z) (hsize : i.size = 1) (hby : i.bytes = 1) (hzs : z.cells.size = 1)
    (v : Value) (n : Nat) (xs : List Value) (hown : w.ownsRowF 0 e 1 v n xs) (a : Addr) (m c : Nat) (news : List Value) (hl : news.length = m) (hnews : ∀ j u, news[j]? = some u → w.cell? (a.add j) = some u) (h1 : ∀ u ∈ news, u.oneCell' = true) (h63 : n + m ≤ 140737488355328)
    (v' : Value) (w' : World) (hr : (Builtin.append_ #[t, t] ty #[v, .slice (some a) m c]).run P w = .ok v' w') : v'.ownBlock = v.ownBlock ∨ v'.ownBlock = some w.heap.size := by
  have hmx : n + m ≤ maxLen := by unfold maxLen; omega
  rcases hown.2 with ⟨rfl, rfl⟩ | ⟨g, cap, cur, fz, rfl, hbg, hg, hfz, hnc, hcm, hcs, htake⟩
  · obtain ⟨v2, w2, r1, _, _, _, r5⟩ := run_append_own_at (P := P) w 0 t ty e i z 1 1 ht hi hz hsize hby hzs (by decide) (.slice none 0 0) 0 xs ⟨hown.1, .inl ⟨rfl, rfl⟩⟩ a m c news (by omega) hnews h1 hmx (by omega) (Nat.zero_le _)
    rw [hr] at r1
    injection r1 with r1 _
    subst r1
    exact r5
  · by_cases hroom : n + m ≤ cap
    · have r1 := run_append_roomF (P := P) w t ty e i ht hi g n cap cur fz hg (by rw [hsize]; exact hfz) a m c news (by rw [hsize]; omega) hnews h1 hroom (by rw [hsize, hl, hcs]; omega)
      rw [hr] at r1
      injection r1 with r1 _
      subst r1
      exact .inl rfl
    · have r1 := run_append_grow (P := P) w t ty e i z ht hi hz ⟨g, 0, none⟩ n cap xs (by rw [hsize]; exact hown.1) (hown.cells (g := g) rfl) a m c news (by rw [hsize]; omega) hnews (by omega) (by omega) (by rw [hby]; exact growslice_fits (by omega) (by omega))
      rw [hr] at r1
      injection r1 with r1 _
      subst r1
      exact .inr rfl
theorem appSF_at {P : Program} (w : World) (t u ty e : TypeId) (i : TypeInfo) (ht : P.underlying t = some (.slice e)) (hu : P.underlying u = some .string) (hi : P.info? e = some i) (hz : i.zero = some (.int .u8 0)) (hsize : i.size = 1) (hby : i.bytes = 1)
    (v : Value) (n : Nat) (xs : List Value) (hown : w.ownsRowF 0 e 1 v n xs) (s : ByteArray) (h63 : n + s.size ≤ 140737488355328) (v' : Value) (w' : World) (hr : (Builtin.append_ #[t, u] ty #[v, .string s]).run P w = .ok v' w') :
    v'.ownBlock = v.ownBlock ∨ v'.ownBlock = some w.heap.size := by
  have hmx : n + s.size ≤ maxLen := by unfold maxLen; omega
  rcases hown.2 with ⟨rfl, rfl⟩ | ⟨g, cap, cur, fz, rfl, hbg, hg, hfz, hnc, hcm, hcs, htake⟩
  · by_cases h0 : 0 < s.size
    · have r1 := run_append_nil_string (P := P) w t u ty e i (.int .u8 0) ht hu hi hz s h0 (by omega) (by rw [hby]; omega)
      rw [hr] at r1
      injection r1 with r1 _
      subst r1
      exact .inr rfl
    · obtain ⟨v2, w2, r1, _, _, r4⟩ := Lib.run_append_own_stringF (P := P) w 0 t u ty e i ht hu hi hz hsize hby (.slice none 0 0) 0 xs hown s hmx h63 (Nat.zero_le _)
      rw [hr] at r1
      injection r1 with r1 _
      subst r1
      rw [r4.2 ⟨rfl, by omega⟩]
      exact .inl rfl
  · have hxl : xs.length = n := by have := hown.1; omega
    by_cases hroom : n + s.size ≤ cap
    · have r1 := Lib.run_append_room_stringF (P := P) w t u ty e i ht hu hi hsize g n cap cur fz hg (by omega) s hroom (by omega)
      rw [hr] at r1
      injection r1 with r1 _
      subst r1
      exact .inl rfl
    · have r1 := Lib.run_append_grow_string (P := P) w t u ty e i (.int .u8 0) ht hu hi hz ⟨g, 0, none⟩ n cap xs (by rw [hsize]; omega) (hown.cells (g := g) rfl) s (by omega) (by omega) (by rw [hby]; exact growslice_fits (by omega) (by omega))
      rw [hr] at r1
      injection r1 with r1 _
      subst r1
      exact .inr rfl
/-- at the list of operations -/
theorem app_byteL {P : Program} {ops : Array Oper} {rest : List Oper} {o : Oper} {a : Act} {Q : Exit → Act → World → Prop} {w : World} (hgd : o.guard = none) (s x : Operand) (t e : TypeId) (ho : o.op = .call { callee := .builtin .append, args := #[s, x], argTypes := #[t, t] })
    (i : TypeInfo) (z : Value) (ht : P.underlying t = some (.slice e)) (hi : P.info? e = some i) (hz : i.zero = some z) (hsize : i.size = 1) (hby : i.bytes = 1) (hzs : z.cells.size = 1)
    (v : Value) (n : Nat) (xs : List Value) (hs : a.eval s = v) (hown : w.ownsRowF 0 e 1 v n xs) (ad : Addr) (m c : Nat) (news : List Value) (hx : a.eval x = .slice (some ad) m c) (hl : news.length = m) (hnews : ∀ j u, news[j]? = some u → w.cell? (ad.add j) = some u) (h1 : ∀ u ∈ news, u.oneCell' = true) (h63 : n + m ≤ 140737488355328)
    (h : ∀ v' w', w'.ownsRowF 0 e 1 v' (n + m) (xs ++ news) → w.grownBy w' v.ownBlock → (v'.ownBlock = v.ownBlock ∨ v'.ownBlock = some w.heap.size) → wpList P ops Q rest (a.put o.dst v') w') : wpList P ops Q (o :: rest) a w := by
  refine wpList_plain hgd fun K hK => ?_
  obtain ⟨v', w', hr, h2, h3, h4⟩ := run_append_ownF (P := P) w 0 t o.type e i z 1 1 ht hi hz hsize hby hzs (by decide) v n xs hown ad m c news (by omega) hnews h1 (by unfold maxLen; omega) (by omega) (Nat.zero_le _)
  have hat := appF_at w t o.type e i z ht hi hz hsize hby hzs v n xs hown ad m c news hl hnews h1 h63 v' w' hr
  unfold Oper.wp execOp
  simp only [ho, resolve, invoke, builtin, Sem.run_bind, Sem.run_pure, Result.andThen_ok, List.map_toArray, List.map_cons, List.map_nil, hs, hx, hr]
  exact hK _ _ (h v' w' h2 h3 hat)
theorem app_strL {P : Program} {ops : Array Oper} {rest : List Oper} {o : Oper} {a : Act} {Q : Exit → Act → World → Prop} {w : World} (hgd : o.guard = none) (sl x : Operand) (t u e : TypeId) (ho : o.op = .call { callee := .builtin .append, args := #[sl, x], argTypes := #[t, u] })
    (i : TypeInfo) (ht : P.underlying t = some (.slice e)) (hu : P.underlying u = some .string) (hi : P.info? e = some i) (hz : i.zero = some (.int .u8 0)) (hsize : i.size = 1) (hby : i.bytes = 1)
    (v : Value) (n : Nat) (xs : List Value) (hs : a.eval sl = v) (hown : w.ownsRowF 0 e 1 v n xs) (s : ByteArray) (hx : a.eval x = .string s) (h63 : n + s.size ≤ 140737488355328)
    (h : ∀ v' w', w'.ownsRowF 0 e 1 v' (n + s.size) (xs ++ Lib.strCells s) → w.grownBy w' v.ownBlock → (v'.ownBlock = v.ownBlock ∨ v'.ownBlock = some w.heap.size) → wpList P ops Q rest (a.put o.dst v') w') : wpList P ops Q (o :: rest) a w := by
  refine wpList_plain hgd fun K hK => ?_
  obtain ⟨v', w', hr, h2, h3, h4⟩ := Lib.run_append_own_stringF (P := P) w 0 t u o.type e i ht hu hi hz hsize hby v n xs hown s (by unfold maxLen; omega) h63 (Nat.zero_le _)
  have hat := appSF_at w t u o.type e i ht hu hi hz hsize hby v n xs hown s h63 v' w' hr
  unfold Oper.wp execOp
  simp only [ho, resolve, invoke, builtin, Sem.run_bind, Sem.run_pure, Result.andThen_ok, List.map_toArray, List.map_cons, List.map_nil, hs, hx, hr]
  exact hK _ _ (h v' w' h2 h3 hat)
section
variable {lo : Nat} {w0 w w' : World} {Rs : List Res} {b : Nat} {l : List UInt8}
theorem St.bu (h : St lo w0 w (buR b l :: Rs)) : Bu lo b l w := by
  obtain ⟨F, ⟨v, h1, h2, h3, h4⟩, h5, _⟩ := h.open
  exact h1.bu (h5 b h2) (fun k hk => h5 k (h3 k hk))
theorem St.new_bu (h : St lo w0 w Rs) : St lo w0 (w.alloc (.cells #[.pointer none, .slice none 0 0] 71)) (buR w.heap.size [] :: Rs) :=
  h.new (F := fun k => k = w.heap.size) ((Below.refl _ w).alloc (Nat.le_refl _) _) ⟨.slice none 0 0, ⟨_, .inl rfl, heap_alloc_new w _, World.ownsRowF_nil _ _ _ _, by simp [Value.ownBlock]⟩, rfl, by simp [Value.ownBlock], fun k hk => by subst hk; simp⟩ (fun k hk => by omega)
set_option maxRecDepth 20000 in
set_option maxHeartbeats 400000 in
theorem check_mod (w : World) (l : List UInt8) (v : Value) (h : BuAt b l w v) :
    Calls Try.prog 63 #[.pointer (some ⟨b, 0, none⟩)] w fun e w' => e = .returned (.tuple #[]) ∧ w'.heap[b]? = some (.cells #[.pointer (some ⟨b, 0, none⟩), v] 71 (0, 0)) ∧ Mod (fun k => k = b) w w' := by
  obtain ⟨p, hp, hbk, ho, hne⟩ := h
  obtain ⟨j, hj, hjs⟩ := Option.map_eq_some_iff.1 size_builder
  have c0 : w.cell? ⟨b, 0, none⟩ = some p := by rw [Lib.cell_of_heap hbk]; rfl
  have hsh : w.shape? b = some (71, 2) := by unfold World.shape?; rw [hbk]; rfl
  have hf : w.frozen? ⟨b, 0, none⟩ = false := Lib.frozen_of_heap hbk 0
  rcases hp with rfl | rfl
  · have k1 := Lib.run_to_unsafe (P := Try.prog) w ⟨b, 0, none⟩ Try.underlying69 Try.underlying123 hj (by rw [hjs]; decide) hsh (Nat.zero_lt_succ 1)
    have k2 := Lib.run_from_unsafe (P := Try.prog) w ⟨b, 0, none⟩ Try.underlying123 Try.underlying69 hj hsh lies_builder
    have hres : (w.setCell ⟨b, 0, none⟩ (.pointer (some ⟨b, 0, none⟩))).heap[b]? = some (.cells #[.pointer (some ⟨b, 0, none⟩), v] 71 (0, 0)) := by
      have := Blk.set_ (g := b) (show Blk w b _ _ from hbk) 0 (.pointer (some ⟨b, 0, none⟩))
      exact this
    have HR := Lib.hid hres
    clear hres hbk hsh ho
    go_enter Try.func63, Try.ntmps63
    go_wp2
    rw [run_callFunc_extern Try.func82 (by kernel_rfl) (by kernel_rfl) (by kernel_rfl) (e := Extern.AbiNoEscape.same) (by kernel_rfl)]
    rw [Lib.run_noEscape]
    simp only [Result.andThen]
    rw [Oper.upon_value]
    go_wp2
    go_end0
    exact ⟨rfl, HR.out, mod_set w b 0 _⟩
  · have k1 := Lib.run_neq_ptr_same (P := Try.prog) w ⟨b, 0, none⟩ Try.underlying69 hj
    have HR := Lib.hid hbk
    clear hbk hsh ho hf
    go_enter Try.func63, Try.ntmps63
    go_wp2
    go_end0
    exact ⟨rfl, HR.out, Mod.refl _ w⟩
theorem rowF_mod {S : Nat → Prop} {w w' : World} {base : Nat} {e : TypeId} {size : Nat} {v : Value} {n : Nat} {xs : List Value} (h : Mod S w w') (ho : w.ownsRowF base e size v n xs) (hv : ∀ k, v.ownBlock = some k → ¬ S k) : w'.ownsRowF base e size v n xs := by
  refine ⟨ho.1, ?_⟩
  rcases ho.2 with h4 | ⟨g, cap, cur, fz, rfl, hg, hh, r⟩
  · exact .inl h4
  · exact .inr ⟨g, cap, cur, fz, rfl, hg, (h.block g (ho.lt g rfl).2 (hv g rfl)).trans hh, r⟩
set_option maxRecDepth 20000 in
set_option maxHeartbeats 400000 in
theorem s_write (h : St lo w0 w (buR b l :: Rs)) (s : List UInt8) (hlen : l.length + s.length ≤ 140737488355328) :
    Calls Try.prog 35 #[.pointer (some ⟨b, 0, none⟩), .string ⟨s.toArray⟩] w fun e w' => e = .returned (.tuple #[.int .i64 s.length, .nilIface]) ∧ St lo w0 w' (buR b (l ++ s) :: Rs) := by
  obtain ⟨i0, hi, hz0, hz1, hz2⟩ := info_parts info_byte
  obtain ⟨F, ⟨v, hat, hFb, hFv, hFs⟩, hFlo, hcl⟩ := h.open
  have hat' := hat
  obtain ⟨p, hp, _, ho, hne⟩ := hat'
  have HC := Lib.hid (And.intro @hcl (And.intro hFb (And.intro hFv hFs)))
  have hFb' := hFs b hFb
  have HS := Lib.hid (bytes_size s)
  clear hp hcl hFv hFs hFb hFlo h
  go_enter Try.func35, Try.ntmps35
  go_wp2_with (go_at_call 63; refine (check_mod w l v hat).mono ?_)
  rintro e w1 ⟨rfl, hbk, hm1⟩
  clear hat
  have hown : w1.ownsRowF 0 5 1 v l.length (vals l) := rowF_mod hm1 ho (fun k hk e => hne (by rw [hk, e]))
  have c0 : w1.cell? ⟨b, 0, none⟩ = some (.pointer (some ⟨b, 0, none⟩)) := by rw [Lib.cell_of_heap hbk]; rfl
  have c1 : w1.cell? ⟨b, 1, none⟩ = some v := by rw [Lib.cell_of_heap hbk]; rfl
  have hsz := hm1.size
  have HO := Lib.hid ho
  clear ho
  have hlt : b < w1.heap.size := by omega
  go_wp2_with (at_builtin; go_must (refine app_strL rfl _ _ 41 9 5 rfl i0 Try.underlying41 Try.underlying9 hi hz0 hz1 hz2 _ _ _ rfl hown ⟨s.toArray⟩ rfl (by rw [HS.out]; omega) ?_))
  intro v' w2 hown' hgrow hat
  have hb2 : w2.heap[b]? = some (.cells #[.pointer (some ⟨b, 0, none⟩), v] 71 (0, 0)) := by
    rw [hgrow.block b hlt (fun e => hne e.symm)]
    exact hbk
  have d0 : w2.cell? ⟨b, 0, none⟩ = some (.pointer (some ⟨b, 0, none⟩)) := by rw [Lib.cell_of_heap hb2]; rfl
  have d1 : w2.cell? ⟨b, 1, none⟩ = some v := by rw [Lib.cell_of_heap hb2]; rfl
  have f1 : w2.frozen? ⟨b, 1, none⟩ = false := Lib.frozen_of_heap hb2 1
  obtain ⟨ao, n', cap, hv'⟩ : ∃ ao n' cap, v' = .slice ao n' cap := by
    rcases hown'.2 with ⟨hv, _⟩ | ⟨g, cap, cur, fz, hv, _⟩
    · exact ⟨_, _, _, hv⟩
    · exact ⟨_, _, _, hv⟩
  have HH := Lib.hid (And.intro hown' (And.intro hgrow (And.intro hat (And.intro hb2 (And.intro hown hm1)))))
  clear hown' hgrow hbk hb2 hown hm1 hat
  subst hv'
  go_wp2
  go_ret2
  refine ⟨?_, ?_⟩
  · refine ret_eq ?_
    simp
  obtain ⟨k1, k2, k3, k4⟩ := HC.out
  obtain ⟨g1, g2, g3, g4, g5, g6⟩ := HH.out
  have hmF : Mod F w w2 := (g6.mono (fun i _ e => by subst e; exact k2)).grown g2 (fun k hk _ => k3 k hk)
  have hloc : ∀ k, (Value.slice ao n' cap).ownBlock = some k → F k ∨ w.heap.size ≤ k := fun k hk => by
    rcases g3 with g3 | g3
    · exact .inl (k3 k (by rw [← g3]; exact hk))
    · rw [g3] at hk
      injection hk with hk
      refine .inr ?_
      have := g6.size
      omega
  have hneb : (Value.slice ao n' cap).ownBlock ≠ some b := by
    rcases g3 with g3 | g3
    · rw [g3]; exact hne
    · rw [g3]
      simp
      have := g6.size
      omega
  refine k1 (w' := w2.setCell ⟨b, 1, none⟩ (.slice ao n' cap)) (F' := fun k => (F k ∨ w.heap.size ≤ k) ∧ k < w2.heap.size) (buR b (l ++ s)) (hmF.setCell (fun _ => k2) _) ⟨.slice ao n' cap, ⟨_, .inr rfl, ?_, ?_, hneb⟩, ⟨.inl k2, by have := hmF.size; omega⟩, fun k hk => ⟨hloc k hk, (g1.lt k hk).2⟩, fun k hk => by simpa [World.setCell] using hk.2⟩ (fun k hk => hk.1)
  · exact Blk.set_ (g := b) (show Blk w2 b _ _ from g4) 1 _
  · have := rowF_mod (mod_set w2 b 1 (.slice ao n' cap)) g1 (fun k hk e => hneb (by rw [hk, e]))
    simpa [vals, Lib.strCells] using this
end
end Go.Proofs.Ytnlpakalcckaiaa
