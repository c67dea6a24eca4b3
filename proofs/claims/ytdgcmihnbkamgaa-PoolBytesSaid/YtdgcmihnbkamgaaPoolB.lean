/- The pool's calls: walks. Conditions: the pool as its memory text says; bytes at most 2^47; fewer than 2^47 messages. -/
import Derived.Test.YtdgcmihnbkamgaaPoolA
namespace Go.Proofs.Ytdgcmihnbkamgaa
open Go.RowKit
set_option linter.unusedVariables false
set_option linter.unusedSimpArgs false
section
variable {P : Program}
/-- Nothing appended to a slice that is not nil: the slice itself, the world as it was. -/
theorem run_append_empty (w : World) (t ty e : TypeId) (i : TypeInfo) (ht : P.underlying t = some (.slice e)) (hi : P.info? e = some i) (a : Addr) (cap : Nat) (A : Option Addr) (c : Nat) :
    (Builtin.append_ #[t, t] ty #[.slice (some a) 0 cap, .slice A 0 c]).run P w = .ok (.slice (some a) 0 cap) w := by
  cases A with
  | none => simp [Builtin.append_, run_underlying ht, sizeOf, typeInfo, hi, Builtin.lenOf, Builtin.firstCells, storeCells]
  | some b => simp [Builtin.append_, run_underlying ht, sizeOf, typeInfo, hi, Builtin.lenOf, Builtin.firstCells, loadCells, loadCellsFrom, storeCells]
section
variable {ops : Array Oper} {rest : List Oper} {o : Oper} {a : Act} {Q : Exit → Act → World → Prop} {K : Act → World → Prop} {E : Prop} {w w1 : World} {v vs vx : Value}
/-- An append whose run is known, at a plain region's list; at a step of a region that draws. -/
theorem wpList_append_run (hgd : o.guard = none) (s x : Operand) (t : TypeId) (ho : o.op = .call { callee := .builtin .append, args := #[s, x], argTypes := #[t, t] })
    (hs : a.eval s = vs) (hx : a.eval x = vx) (hr : (Builtin.append_ #[t, t] o.type #[vs, vx]).run P w = .ok v w1) (h : wpList P ops Q rest (a.put o.dst v) w1) : wpList P ops Q (o :: rest) a w := by
  refine wpList_plain hgd fun K hK => ?_
  unfold Oper.wp execOp
  simp only [ho, resolve, invoke, builtin, Sem.run_bind, Sem.run_pure, Result.andThen_ok, List.map_toArray, List.map_cons, List.map_nil, hs, hx, hr]
  exact hK _ _ h
theorem step_append_run (hgd : o.guard = none) (s x : Operand) (t : TypeId) (ho : o.op = .call { callee := .builtin .append, args := #[s, x], argTypes := #[t, t] })
    (hs : a.eval s = vs) (hx : a.eval x = vx) (hr : (Builtin.append_ #[t, t] o.type #[vs, vx]).run P w = .ok v w1) (h : K (a.put o.dst v) w1) :
    if Region.wanted o (yielded ops a.tmps) = true then Oper.wp P o a w K Q else E := by
  rw [if_pos (by unfold Region.wanted; rw [hgd])]
  unfold Oper.wp execOp
  simp only [ho, resolve, invoke, builtin, Sem.run_bind, Sem.run_pure, Result.andThen_ok, List.map_toArray, List.map_cons, List.map_nil, hs, hx, hr]
  exact h
/-- A delete whose run is known. -/
theorem wpList_delete_run (hgd : o.guard = none) (s x : Operand) (t k : TypeId) (ho : o.op = .call { callee := .builtin .delete, args := #[s, x], argTypes := #[t, k] })
    (hs : a.eval s = vs) (hx : a.eval x = vx) (hr : (Builtin.delete_ #[t, k] o.type #[vs, vx]).run P w = .ok v w1) (h : wpList P ops Q rest (a.put o.dst v) w1) : wpList P ops Q (o :: rest) a w := by
  refine wpList_plain hgd fun K hK => ?_
  unfold Oper.wp execOp
  simp only [ho, resolve, invoke, builtin, Sem.run_bind, Sem.run_pure, Result.andThen_ok, List.map_toArray, List.map_cons, List.map_nil, hs, hx, hr]
  exact hK _ _ h
end
end
@[local go_sem] theorem eqlnil26 (w : World) (a : Option Addr) (n c : Nat) : (binOp .eql 26 (.slice a n c) (.slice none 0 0)).run Try.prog w = .ok (.bool a.isNone) w := Lib.run_eql_slice_nil w _ _ a n c 0 0 Try.underlying26
theorem info5 : (Try.prog.info? 5).map (fun i => (i.zero, i.size, i.bytes)) = some (some (.int .u8 0), 1, 1) := by kernel_rfl
/-- 'append([]byte{}, b...)': new bytes, never nil. -/
theorem fresh_append (w : World) (ty : TypeId) {ok : Nat → Prop} {v : Value} {bs : List UInt8} (h : Bys w ok v bs) (hl : bs.length ≤ 140737488355328) :
    ∃ v' w', (Builtin.append_ #[26, 26] ty #[.slice (some ⟨w.heap.size, 0, none⟩) 0 0, v]).run Try.prog (w.alloc (.cells #[] 5)) = .ok v' w' ∧ RowB w' w.heap.size v' bs ∧ Below w.heap.size w w' := by
  obtain ⟨i0, hi, hz0, hz1, hz2⟩ := info_parts info5
  have hown := World.ownsRow_made (base := w.heap.size) (e := 5) (size := 1) w #[] 0 (Nat.le_refl _) (by decide) rfl
  rcases h with ⟨rfl, rfl⟩ | ⟨a, c, rfl, h2, h3, h4, h5⟩
  · exact ⟨_, _, run_append_empty _ 26 ty 5 i0 Try.underlying26 hi _ _ none 0, hown, (Below.refl _ _).alloc (Nat.le_refl _) _⟩
  · obtain ⟨v', w', hr, ho, hg, _, hat⟩ := run_append_own_at (P := Try.prog) (w.alloc (.cells #[] 5)) w.heap.size 26 ty 5 i0 _ 1 1 Try.underlying26 hi hz0 hz1 hz2 (by rfl) (by decide) _ 0 [] hown a bs.length c (bs.map U8) (by simp)
      (fun j u hu => by
        have hc := h5 j u hu
        exact ((World.cell?_alloc_some w (a.add j) _ (by rw [hc]; rfl)).trans hc))
      (U8_one bs) (by unfold maxLen; omega) (by omega) (by simp)
    refine ⟨v', w', hr, ?_, ?_⟩
    · unfold RowB
      simpa using ho
    · refine ((Below.refl w.heap.size w).alloc (Nat.le_refl _) _).grown hg (by simp) (fun k hk => ?_)
      simp [Value.ownBlock] at hk
      omega
set_option maxRecDepth 100000 in
theorem clone_calls (w : World) {ok : Nat → Prop} {v : Value} {bs : List UInt8} (h : Bys w ok v bs) (hl : bs.length ≤ 140737488355328) :
    Calls Try.prog 34 #[v] w fun e w' => ∃ v', e = .returned v' ∧ RowB w' w.heap.size v' bs ∧ Below w.heap.size w w' := by
  have hf := fresh_append w 26 h hl
  rcases h with ⟨rfl, rfl⟩ | ⟨a, c, rfl, h2, h3, h4, h5⟩
  · clear hf
    go_enter Try.func34, Try.ntmps34
    go_wp2

    go_ret
    exact ⟨_, rfl, World.ownsRow_nil _ _ _ _, Below.refl _ _⟩
  · obtain ⟨v', w', hr, ho, hb⟩ := hf
    have HO := Lib.hid ho
    have HB := Lib.hid hb
    have HRun := Lib.hid hr
    clear ho hb h5 hr
    go_enter Try.func34, Try.ntmps34
    go_wp2_with (at_builtin; (refine wpList_append_run rfl _ _ _ rfl rfl rfl HRun.out ?_))

    go_ret
    exact ⟨_, rfl, HO.out, HB.out⟩
set_option maxRecDepth 100000 in
theorem copied_calls (w : World) {ok : Nat → Prop} (f t : Int) {v : Value} {bs : List UInt8} (h : Bys w ok v bs) (hl : bs.length ≤ 140737488355328) :
    Calls Try.prog 26 #[.agg #[.int .i64 f, .int .i64 t, v]] w fun e w' => ∃ A c, e = .returned (.agg #[.int .i64 f, .int .i64 t, .slice A bs.length c]) ∧ RowB w' w.heap.size (.slice A bs.length c) bs ∧ Below w.heap.size w w' := by
  obtain ⟨A, c, rfl⟩ := h.shape
  have HS := Lib.hid h
  clear h
  go_enter Try.func26, Try.ntmps26
  go_wp2_with fail
  have hA := (Box3.new w (.int .i64 f) (.int .i64 t) (.slice A bs.length c)).alloc (.cells #[.int .i64 0, .int .i64 0, .slice none 0 0] 31)
  have hZ := Box3.new (w.alloc (.cells #[.int .i64 f, .int .i64 t, .slice A bs.length c] 31)) (.int .i64 0) (.int .i64 0) (.slice none 0 0)
  have hB := ((Below.refl w.heap.size w).alloc (Nat.le_refl _) (.cells #[.int .i64 f, .int .i64 t, .slice A bs.length c] 31)).alloc (by simp) (.cells #[.int .i64 0, .int .i64 0, .slice none 0 0] 31)
  have hS : ((w.alloc (.cells #[.int .i64 f, .int .i64 t, .slice A bs.length c] 31)).alloc (.cells #[.int .i64 0, .int .i64 0, .slice none 0 0] 31)).heap.size = w.heap.size + 2 := by simp
  have e1 : (w.alloc (.cells #[.int .i64 f, .int .i64 t, .slice A bs.length c] 31)).heap.size = w.heap.size + 1 := by simp
  rw [e1] at hZ
  clear e1
  generalize (w.alloc (.cells #[.int .i64 f, .int .i64 t, .slice A bs.length c] 31)).alloc (.cells #[.int .i64 0, .int .i64 0, .slice none 0 0] 31) = W at hA hZ hB hS ⊢
  have hv := HS.out.below hB
  refine (clone_calls W hv hl).mono ?_
  rintro e w2 ⟨v', rfl, ho, hb⟩
  obtain ⟨A', c', rfl⟩ := ho.bys.shape
  obtain ⟨⟨a0, a1, a2⟩, a3, a4, a5⟩ := (hA.below hb).bx
  obtain ⟨⟨z0, z1, z2⟩, z3, z4, z5⟩ := (hZ.below hb).bx
  have HO := Lib.hid ho
  have HB := Lib.hid (hB.trans (hb.mono (by omega)))
  have HW := Lib.hid hS
  obtain ⟨g, hg⟩ : ∃ g, w.heap.size = g := ⟨_, rfl⟩
  rw [hg] at HB HW a0 a1 a2 a3 a4 a5 z0 z1 z2 z3 z4 z5 ⊢
  clear ho hb hA hZ hB hS hv
  go_wp2
  (try simp only [Exit.inBlock, Exit.then])
  refine bodyPost_ret (by simp [results, Try.results26, go_sem, z0, z1, z2]; try rfl) rfl ?_
  have hs := HW.out
  rw [hg]
  exact ⟨A', c', rfl, ((((HO.out.set _ _ (by show g < _; omega)).set _ _ (by show g + 1 < _; omega)).set _ _ (by show g + 1 < _; omega)).set _ _ (by show g + 1 < _; omega)).lower (by omega),
    (((HB.out.setCell (Nat.le_refl _) _).setCell (Nat.le_succ _) _).setCell (Nat.le_succ _) _).setCell (Nat.le_succ _) _⟩
/-- 'New()'. -/
theorem new_calls (w : World) : Calls Try.prog 8 #[] w fun e w' => ∃ pb, e = .returned (.pointer (some ⟨pb, 0, none⟩)) ∧ w.heap.size ≤ pb ∧ PoolAt w' (fun b => w.heap.size ≤ b) pb [] ∧ Below w.heap.size w w' := by
  have hm := run_makeMap (P := Try.prog) 62 w
  go_enter Try.func8, Try.ntmps8
  go_wp2
  go_ret
  have e1 : (w.alloc (.map #[] 0)).heap.size = w.heap.size + 1 := by simp
  have hb := ((Below.refl w.heap.size w).alloc (Nat.le_refl _) (.map #[] 0)).alloc (by simp) (.cells #[.int .i64 0, .map (some w.heap.size)] 64)
  refine ⟨w.heap.size + 1, rfl, Nat.le_succ _, ⟨w.heap.size, fun _ => none, ?_, Nat.le_succ _, Nat.le_refl _, ?_, fun k hk => ?_⟩, hb⟩
  · have h := heap_alloc_new (w.alloc (.map #[] 0)) (.cells #[.int .i64 0, .map (some w.heap.size)] 64)
    rw [e1] at h
    exact h
  · exact (MapF.made w).block (heap_alloc_old _ _ (by simp))
  · have : under [] k = none := by unfold under; split <;> simp
    rw [this]
    rfl
set_option maxRecDepth 100000 in
/-- 'p.Made()'. -/
theorem made_calls (w : World) {ok : Nat → Prop} {pb : Nat} {All : List Md} (h : PoolAt w ok pb All) : Calls Try.prog 11 #[.pointer (some ⟨pb, 0, none⟩)] w fun e w' => e = .returned (.int .i64 All.length) ∧ Below w.heap.size w w' := by
  obtain ⟨mb, F, h1, _⟩ := h
  obtain ⟨⟨c0, c1⟩, f0, f1⟩ := PB.bx h1
  clear h1
  go_enter Try.func11, Try.ntmps11
  go_wp2
  go_ret
  exact ⟨rfl, Below.refl _ _⟩
def grow (ok : Nat → Prop) (w : World) : Nat → Prop := fun b => ok b ∨ w.heap.size ≤ b
set_option maxRecDepth 100000 in
set_option maxHeartbeats 1000000 in
/-- 'p.Put(l)'. -/
theorem put_calls (w : World) {ok ok' : Nat → Prop} {pb : Nat} {All : List Md} (f t : Int) {v : Value} {bs : List UInt8} (h : PoolAt w ok pb All) (hb : Bys w ok' v bs) (hl : bs.length ≤ 140737488355328) (hn : All.length < 140737488355328) :
    Calls Try.prog 9 #[.pointer (some ⟨pb, 0, none⟩), .agg #[.int .i64 f, .int .i64 t, v]] w fun e w' => e = .returned (.int .i64 (All.length + 1)) ∧ PoolAt w' (grow ok w) pb (All ++ [⟨f, t, bs, false⟩]) ∧ Turn ok w w' := by
  have hpb := h.lt
  obtain ⟨mb, F, h1, hok1, hok2, h2, h3⟩ := h
  obtain ⟨A, c, rfl⟩ := hb.shape
  have hne := PB.ne h1 h2
  have hmb := h2.lt
  have hw : IntKind.i64.wrap ((All.length : Int) + 1) = (All.length : Int) + 1 := by rw [IntKind.wrap_i64]; omega
  have hsz : (w.setCell ⟨pb, 0, none⟩ (.int .i64 (All.length + 1))).heap.size = w.heap.size := by simp [World.setCell]
  have hT0 : Turn ok w ((w.setCell ⟨pb, 0, none⟩ (.int .i64 (All.length + 1))).alloc (.cells #[.int .i64 f, .int .i64 t, .slice A bs.length c] 31)) := (Turn.setCell _ _ _ hok1).trans (Turn.of_below ((Below.refl _ _).alloc (Nat.le_refl _) _))
  have hal := (Below.refl (w.setCell ⟨pb, 0, none⟩ (.int .i64 (All.length + 1))).heap.size (w.setCell ⟨pb, 0, none⟩ (.int .i64 (All.length + 1)))).alloc (Nat.le_refl _) (.cells #[.int .i64 f, .int .i64 t, .slice A bs.length c] 31)
  have hP1 := (PB.set0 h1 (All.length + 1)).below hal
  have hM1 : MapF ((w.setCell ⟨pb, 0, none⟩ (.int .i64 (All.length + 1))).alloc (.cells #[.int .i64 f, .int .i64 t, .slice A bs.length c] 31)) mb All.length F := h2.block ((hal.block _ (by rw [hsz]; exact hmb)).trans (Below.heap_setCell _ _ _ _ (Ne.symm hne)))
  have hb1 := (hb.setPB h1 (.int .i64 (All.length + 1))).below hal
  have hH1 := fun k hk => (h3 k hk).loc (w' := (w.setCell ⟨pb, 0, none⟩ (.int .i64 (All.length + 1))).alloc (.cells #[.int .i64 f, .int .i64 t, .slice A bs.length c] 31)) (fun b _ hnb _ hlt => (hal.block b (by rw [hsz]; exact hlt)).trans (Below.heap_setCell _ _ _ _ hnb))
  have hB1 := Box3.new (w.setCell ⟨pb, 0, none⟩ (.int .i64 (All.length + 1))) (.int .i64 f) (.int .i64 t) (.slice A bs.length c)
  have hs1 : ((w.setCell ⟨pb, 0, none⟩ (.int .i64 (All.length + 1))).alloc (.cells #[.int .i64 f, .int .i64 t, .slice A bs.length c] 31)).heap.size = w.heap.size + 1 := by simp [World.setCell]
  rw [hsz] at hB1
  obtain ⟨⟨c0, c1⟩, f0, f1⟩ := PB.bx h1
  go_enter Try.func9, Try.ntmps9
  go_wp2_with fail
  generalize ((w.setCell ⟨pb, 0, none⟩ (.int .i64 (All.length + 1))).alloc (.cells #[.int .i64 f, .int .i64 t, .slice A bs.length c] 31)) = W at *
  clear hal c0 c1 f0 f1 h1 h2 h3 hb
  have hi : int64 ((All.length : Int) + 1) := by unfold int64; omega
  have HD := Lib.hid (show Holds W ok pb mb (under All (All.length + 1)) (F (All.length + 1)) from hH1 _ hi)
  rw [under_none_big] at HD
  obtain ⟨⟨c0, c1⟩, f0, f1⟩ := hP1.bx
  obtain ⟨⟨b0, b1, b2⟩, _, _, _⟩ := hB1.bx
  have HT0 := Lib.hid hT0
  have HP1 := Lib.hid hP1
  have HM1 := Lib.hid hM1
  have HB1 := Lib.hid hB1
  have HBy := Lib.hid hb1
  have HH1 := Lib.hid hH1
  have HS1 := Lib.hid hs1
  clear hT0 hP1 hM1 hB1 hb1 hH1 hs1
  go_region_held3 (fun w' => (w'.cell? ⟨pb, 0, none⟩ = some (.int .i64 (All.length + 1)) ∧ w'.cell? ⟨pb, 1, none⟩ = some (.map (some mb))) ∧ w'.cell? ⟨w.heap.size, 0, none⟩ = some (.int .i64 f) ∧ w'.cell? ⟨w.heap.size, 1, none⟩ = some (.int .i64 t) ∧ w'.cell? ⟨w.heap.size, 2, none⟩ = some (.slice A bs.length c))
    (first | with_reducible exact HQ3.out | with_reducible exact HQ2.out | (exact ⟨⟨c0, c1⟩, b0, b1, b2⟩))
    ((go_at_call 26; (refine (copied_calls _ f t (HBy.out.below (Below.drew (Below.refl _ _))) hl).mono ?_); rintro e w2 ⟨A', c', rfl, ho, hb⟩; have HO := Lib.hid ho; have hb' := (Below.drew (Below.refl W.heap.size W)).trans hb; have HB := Lib.hid hb'; have HQ2 := Lib.hid (And.intro (HP1.out.below hb').bx.1 (HB1.out.below hb').bx.1); obtain ⟨w3, hrun, hM3, hg3, hs3⟩ := (HM1.out.block (hb'.block _ HM1.out.lt)).put (by unfold maxLen; omega) hi (.agg #[.int .i64 f, .int .i64 t, .slice A' bs.length c']); have HM3 := Lib.hid hM3; have HG3 := Lib.hid hg3; have HS3 := Lib.hid hs3; have HP3 := Lib.hid ((HP1.out.below hb').block (hg3.block _ (heap_lt (HP1.out.below hb')) (by simpa using hne))); have HQ3 := Lib.hid (And.intro ((HP1.out.below hb').block (hg3.block _ (heap_lt (HP1.out.below hb')) (by simpa using hne))).bx.1 (Box3.bx (show Box3 w3 w.heap.size _ _ _ from (hg3.block _ (heap_lt (HB1.out.below hb')) (by simp; omega)).trans (HB1.out.below hb'))).1); clear ho hb hb' hM3 hg3 hs3))
  obtain ⟨⟨q0, q1⟩, q2, q3, q4⟩ := HQ3.out
  go_wp2
  go_ret
  have hF : F (All.length + 1) = none := HD.out
  have hM3 := HM3.out
  rw [hF] at hM3
  have hWs := HS1.out
  have hB2 := HB.out
  have hsz2 := hB2.size
  refine ⟨rfl, ⟨mb, (fun x : Int => if x = (All.length : Int) + 1 then some (.agg #[.int .i64 f, .int .i64 t, .slice A' bs.length c']) else F x), ?_, .inl hok1, .inl hok2, ?_, fun k hk => ?_⟩, ?_⟩
  · have h := HP3.out
    rw [show (All.length : Int) + 1 = (((All ++ [(⟨f, t, bs, false⟩ : Md)]).length : Nat) : Int) by simp] at h
    exact h
  · simpa using hM3
  · rw [under_snoc]
    by_cases e : k = All.length + 1
    · rw [if_pos e]
      simp only [if_pos e]
      refine ⟨_, rfl, (HO.out.bys.loc (w' := w3) (fun b hb hlt => HG3.out.block b hlt (by simp at hb; simp; omega))).mono fun b hb => ?_⟩
      have h1 := hb.1
      simp at h1
      exact ⟨.inr (by omega), by omega, by omega⟩
    · rw [if_neg e]
      simp only [if_neg e]
      refine ((HH1.out k hk).loc (w' := w3) (fun b _ _ hnm hlt => ?_)).mono fun b hb => .inl hb
      exact (HG3.out.block b (by omega) (by simpa using hnm)).trans (hB2.block b hlt)
  · refine (HT0.out.trans (Turn.of_below hB2)).trans (Turn.of_grown HG3.out fun k hk => ?_)
    simp at hk
    exact .inl (.inl (hk ▸ hok2))
end Go.Proofs.Ytdgcmihnbkamgaa
