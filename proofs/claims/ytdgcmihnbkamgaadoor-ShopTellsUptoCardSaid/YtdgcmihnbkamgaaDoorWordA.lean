/- shop.Word: the walk: a map of 25 words, a lookup, the number's text. Condition for the last: the table of powers of ten is laid. -/
import Derived.Test.YtdgcmihnbkamgaaDoorMapI
import Derived.Test.YtdgcmihnbkamgaaDoorShelf
import Derived.Test.YtdgcmihnbkamgaaDoorProg
import Derived.Below
import Derived.Tactics
import Derived.WalkKit
import Derived.KernelRfl
import Derived.Deep.DeepCutAuto
import Derived.Deep.CutBlock
import Derived.WalkSpells
import Derived.WalkLawsBesides
import Derived.Deep.DeepMust
import Derived.Lib.ItoaLen
namespace Go.Proofs.YtdgcmihnbkamgaaDoor
open Go.RowKit
set_option linter.unusedVariables false
def wordEs : Array MapEntry := ((((((((((((((((((((((((((#[] : Array MapEntry).push ⟨.int .i64 0, .agg #[.string ⟨#[111, 107]⟩], 0⟩).push ⟨.int .i64 1, .agg #[.string ⟨#[102, 111, 114, 109]⟩], 1⟩).push ⟨.int .i64 2, .agg #[.string ⟨#[110, 117, 109, 98, 101, 114]⟩], 2⟩).push ⟨.int .i64 3, .agg #[.string ⟨#[114, 101, 112, 108, 105, 99, 97]⟩], 3⟩).push ⟨.int .i64 4, .agg #[.string ⟨#[99, 97, 114, 116]⟩], 4⟩).push ⟨.int .i64 5, .agg #[.string ⟨#[115, 107, 117]⟩], 5⟩).push ⟨.int .i64 6, .agg #[.string ⟨#[113, 117, 97, 110, 116, 105, 116, 121]⟩], 6⟩).push ⟨.int .i64 7, .agg #[.string ⟨#[107, 105, 110, 100]⟩], 7⟩).push ⟨.int .i64 8, .agg #[.string ⟨#[109, 97, 108, 102, 111, 114, 109, 101, 100]⟩], 8⟩).push ⟨.int .i64 9, .agg #[.string ⟨#[101, 120, 104, 97, 117, 115, 116, 101, 100]⟩], 9⟩).push ⟨.int .i64 10, .agg #[.string ⟨#[99, 108, 97, 115, 104]⟩], 10⟩).push ⟨.int .i64 11, .agg #[.string ⟨#[97, 98, 115, 101, 110, 116]⟩], 11⟩).push ⟨.int .i64 12, .agg #[.string ⟨#[102, 117, 108, 108]⟩], 12⟩).push ⟨.int .i64 13, .agg #[.string ⟨#[111, 118, 101, 114, 102, 108, 111, 119]⟩], 13⟩).push ⟨.int .i64 14, .agg #[.string ⟨#[116, 111, 107, 101, 110]⟩], 14⟩).push ⟨.int .i64 15, .agg #[.string ⟨#[109, 101, 115, 115, 97, 103, 101]⟩], 15⟩).push ⟨.int .i64 16, .agg #[.string ⟨#[115, 101, 108, 102]⟩], 16⟩).push ⟨.int .i64 17, .agg #[.string ⟨#[116, 101, 120, 116]⟩], 17⟩).push ⟨.int .i64 20, .agg #[.string ⟨#[101, 109, 112, 116, 121]⟩], 18⟩).push ⟨.int .i64 21, .agg #[.string ⟨#[108, 111, 110, 103]⟩], 19⟩).push ⟨.int .i64 22, .agg #[.string ⟨#[98, 121, 116, 101]⟩], 20⟩).push ⟨.int .i64 23, .agg #[.string ⟨#[100, 105, 103, 105, 116]⟩], 21⟩).push ⟨.int .i64 50, .agg #[.string ⟨#[115, 104, 111, 114, 116]⟩], 22⟩).push ⟨.int .i64 51, .agg #[.string ⟨#[119, 105, 100, 101]⟩], 23⟩).push ⟨.int .i64 52, .agg #[.string ⟨#[114, 101, 115, 116]⟩], 24⟩)
section
variable {P : Program} {ops : Array Oper} {rest : List Oper} {o : Oper} {a : Act} {Q : Exit → Act → World → Prop} {mty kt et : TypeId} {w : World}
theorem word_world {Pm : World → Prop} {es : Array MapEntry} {c : Nat} (es' : Array MapEntry) (he : es = es') (h : ∀ w1 g, w.heap.size = g → w1.heap[g]? = some (.map es' c) → Below w.heap.size w w1 → g < w1.heap.size → Pm w1) : Pm (w.alloc (.map es c)) := by
  subst he
  refine h _ _ rfl ?_ (by exact (Below.refl _ _).alloc (Nat.le_refl _) _) (by simp)
  show (w.heap.push _)[w.heap.size]? = _
  simp
theorem ins_event (hm : P.underlying mty = some (.map kt et)) (hk : P.underlying kt = some (.int .i64)) {m : Tmp} {k : Int} {x : Operand} {es : Array MapEntry} {c : Nat} {v : Value} (hg : o.guard = none) (hd : o.dst = none) (ho : o.op = .insert mty (.tmp m) (.const (.int .i64 k)) x)
    (he : a.eval (.tmp m) = .map (some w.heap.size)) (hx : a.eval x = v) (hf : Instr.findNow (.int .i64) (.int .i64 k) es.toList 0 = some none) (h : wpList P ops Q rest a (w.alloc (.map (es.push ⟨.int .i64 k, v, c⟩) (c + 1)))) : wpList P ops Q (o :: rest) a (w.alloc (.map es c)) := by
  refine wpList_plain hg fun K hK => ?_
  have hrun := run_ins (w := w) hm hk es c k v hf
  have e1 : a.eval (.const (.int .i64 k)) = .int .i64 k := rfl
  unfold Oper.wp execOp
  simp only [ho, he, hx, e1, Sem.run_bind, Sem.run_pure, Result.andThen_ok, hrun]
  show K (a.put o.dst undef) _
  rw [hd]
  exact hK a _ h
end

/-- The table of powers of ten, as it is laid. -/
abbrev Pow (w : World) : Prop := Lib.TabIs Tryd.prog w "internal/strconv.uint64pow10" .u64 Lib.pow10Tab
theorem pow_below {w w' : World} (h : Pow w) (hb : Below w.heap.size w w') : Pow w' := by
  obtain ⟨g, hg⟩ : ∃ g, Tryd.prog.globalNamed "internal/strconv.uint64pow10" = some g := by
    cases hx : Tryd.prog.globalNamed "internal/strconv.uint64pow10" with
    | none => unfold Pow Lib.TabIs World.var? at h; rw [hx] at h; cases h
    | some g => exact ⟨g, rfl⟩
  unfold Pow Lib.TabIs World.var? at h ⊢
  rw [hg] at h ⊢
  simp only [Option.bind_some] at h ⊢
  have hlt : g < w.heap.size := by
    rcases Nat.lt_or_ge g w.heap.size with h' | h'
    · exact h'
    · rw [Array.getElem?_eq_none h'] at h; cases h
  rw [hb.block g hlt]
  exact h
theorem itoa_calls (n : Int) (h0 : -9223372036854775808 ≤ n) (h1 : n ≤ 9223372036854775807) (w : World) (htab : Pow w) :
    Calls Tryd.prog 9 #[.int .i64 n] w fun e w' => e = .returned (.string ⟨(Lib.itoa n).toArray⟩) ∧ Below w.heap.size w w' := by
  refine (Tryd.strconv_Itoa n h0 h1 w htab).mono ?_
  rintro e w' ⟨rfl, k, os, rfl⟩
  refine ⟨rfl, rfl, rfl, rfl, by simp [Sort.size_grow], fun i hi => ?_⟩
  show ((w.drewN k).heap ++ os)[i]? = w.heap[i]?
  rw [Array.getElem?_append_left (by exact hi)]
  rfl
set_option maxHeartbeats 4000000 in
set_option maxRecDepth 100000 in
theorem word_hit (e : Int) (i : Nat) (s : ByteArray) (hf : Instr.findNow (.int .i64) (.int .i64 e) wordEs.toList 0 = some (some (i, .agg #[.string s]))) (w : World) : Calls Tryd.prog 5 #[.int .i64 e] w fun r w' => r = .returned (.string s) ∧ Below w.heap.size w w' := by
  have hmm := @run_makeMap Tryd.prog
  go_enter Tryd.func5, Tryd.ntmps5
  go_upto_region 2 with (refine ins_event Tryd.underlying34 Tryd.underlying23 rfl rfl rfl rfl rfl (by rfl) ?_)
  refine word_world (Pm := fun W => Code.wp Tryd.prog _ _ _ W) wordEs (by rfl) (fun w1 g hg hb hB hs => ?_)
  rw [hg]
  have hlk := run_look Tryd.underlying34 Tryd.underlying23 hb e i _ hf
  clear hb hf hmm
  go_wp2
  go_ret
  exact ⟨rfl, hB.alloc hB.size _⟩
set_option maxHeartbeats 4000000 in
set_option maxRecDepth 100000 in
theorem word_miss (e : Int) (h0 : -9223372036854775808 ≤ e) (h1 : e ≤ 9223372036854775807) (hf : Instr.findNow (.int .i64) (.int .i64 e) wordEs.toList 0 = some none) (w : World) (htab : Pow w) : Calls Tryd.prog 5 #[.int .i64 e] w fun r w' => r = .returned (.string (⟨#[101, 114, 114, 111, 114, 32]⟩ ++ ⟨(Lib.itoa e).toArray⟩)) ∧ Below w.heap.size w w' := by
  have hmm := @run_makeMap Tryd.prog
  go_enter Tryd.func5, Tryd.ntmps5
  go_upto_region 2 with (refine ins_event Tryd.underlying34 Tryd.underlying23 rfl rfl rfl rfl rfl (by rfl) ?_)
  refine word_world (Pm := fun W => Code.wp Tryd.prog _ _ _ W) wordEs (by rfl) (fun w1 g hg hb hB hs => ?_)
  rw [hg]
  have hlk := run_lack Tryd.underlying34 Tryd.underlying23 hb e (.agg #[.string ⟨#[]⟩]) (by kernel_rfl) hf
  clear hb hf hmm
  have hov : ¬ (9223372036854775807 < 6 + (Lib.itoa e).length) := by have := Lib.itoa_length_le e h0 h1; omega
  go_wp2_with (go_at_call 9; refine (itoa_calls e h0 h1 _ (pow_below htab (hB.alloc hB.size _))).mono ?_; rintro r w2 ⟨rfl, hb2⟩)
  go_ret
  exact ⟨rfl, (hB.alloc hB.size _).trans (hb2.mono (by have := hB.size; simp; omega))⟩
end Go.Proofs.YtdgcmihnbkamgaaDoor
