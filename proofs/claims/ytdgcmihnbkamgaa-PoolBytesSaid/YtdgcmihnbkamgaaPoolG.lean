/- The pool's Waiting: the walk over the library's contracts. Conditions: the pool as its memory text says; fewer than 2^44 messages. -/
import Derived.Test.YtdgcmihnbkamgaaPoolE
import Derived.Test.YtdgcmihnbkamgaaKeys
import Derived.Shelf.AbstractIn
namespace Go.Proofs.Ytdgcmihnbkamgaa
open Go.RowKit Go.Maps Go.Sort Go.Shelf
set_option linter.unusedVariables false
set_option linter.unusedSimpArgs false
/-- The numbers of the messages under way, rising. -/
def waits (All : List Md) : List Int := ((List.range All.length).map fun i : Nat => (i : Int) + 1).filter fun k => (under All k).isSome
theorem waits_rise (All : List Md) : (waits All).Pairwise (fun a b => a < b) := by
  refine List.Pairwise.filter _ (List.pairwise_map.2 ?_)
  exact List.pairwise_lt_range.imp fun h => by omega
theorem mem_waits (All : List Md) (x : Int) : x ∈ waits All ↔ (under All x).isSome = true := by
  unfold waits
  rw [List.mem_filter]
  constructor
  · exact fun h => h.2
  · intro h
    refine ⟨?_, h⟩
    obtain ⟨m, hm⟩ := Option.isSome_iff_exists.1 h
    obtain ⟨h1, h2, _⟩ := under_some hm
    exact List.mem_map.2 ⟨x.toNat - 1, List.mem_range.2 h2, by omega⟩
theorem sort_rising {l : List Int} (h : l.Pairwise (fun a b => a < b)) : l.mergeSort (fun x y => decide (x ≤ y)) = l :=
  List.mergeSort_of_pairwise (h.imp fun h => by simpa using Int.le_of_lt h)
theorem keys_perm {w : World} {mb : Nat} {All : List Md} {D : DataW Value} {F : Int → Option Value} (hown : w.ownsMap Try.prog 3 heldR mb All.length D) (hr : Reads D F) (hn : All.length < 9223372036854775807)
    (hF : ∀ k, int64 k → ((F k).isSome = (under All k).isSome)) : (waits All).Perm (intKeys D) := by
  obtain ⟨es, hD, hpw, _⟩ := hown.entries K3
  obtain ⟨es', hD', hko⟩ := hown.keysOf
  obtain rfl : es = es' := by rw [hD] at hD'; simpa using hD'
  subst hD
  have hkk : ∀ p ∈ es, ∃ x, p.1 = .int .i64 x ∧ (Lit.int .i64 x).wf = true := fun p hp => by obtain ⟨v, hv⟩ := hko p hp; obtain ⟨x, _, hx, hw⟩ := Maps.keyOf_i64 Try.underlying3 hv; exact ⟨x, hx, hx ▸ hw⟩
  refine perm_intKeys hpw (fun p hp => by obtain ⟨x, hx, _⟩ := hkk p hp; exact ⟨x, hx⟩) ((waits_rise All).imp fun h => by omega) (fun x => ?_)
  rw [mem_waits]
  by_cases hx : int64 x
  · have h1 := hr x hx
    rw [← hF x hx]
    cases hFx : F x with
    | none => rw [hFx] at h1; rw [h1]; simp
    | some v => rw [hFx] at h1; rw [h1.1]; simp
  · have h2 : under All x = none := by
      cases hu : under All x with
      | none => rfl
      | some m =>
        obtain ⟨h1, h2, _⟩ := under_some hu
        exact absurd (by unfold int64; omega) hx
    rw [h2]
    constructor
    · intro h; cases h
    · intro h
      exfalso
      rw [has_eq, List.any_eq_true] at h
      obtain ⟨p, hp, hs⟩ := h
      obtain ⟨y, hy, hw⟩ := hkk p hp
      rw [hy] at hs
      have e : y = x := by simpa [Lit.sameKey] using hs
      rw [e] at hw
      apply hx
      have e1 : IntKind.i64.min = -9223372036854775808 := by decide
      have e2 : IntKind.i64.max = 9223372036854775807 := by decide
      simp only [Lit.wf, Bool.and_eq_true, decide_eq_true_eq] at hw
      unfold int64
      omega
theorem sortsP (m : Nat) : AnyZI.SortsIn Try.prog Try.sorted31_ren Fence.wide m :=
  ⟨fun blk off cap ss W hH hblk hsz => callsIn_wide.2 (AnyM.slices_Sort_int Try.sort36 blk off cap ss W hH hblk hsz),
   fun p cap W => callsIn_wide.2 (AnyM.slices_Sort_int_none Try.sort36 p cap W)⟩
set_option maxHeartbeats 1000000 in
/-- 'p.Waiting()': a new list of the numbers under way, rising. -/
theorem waiting_calls (w : World) {ok : Nat → Prop} {pb : Nat} {All : List Md} (h : PoolAt w ok pb All) (hn : All.length ≤ 17592186044416) :
    Calls Try.prog 18 #[.pointer (some ⟨pb, 0, none⟩)] w fun e w' => ∃ v, e = .returned v ∧ w'.ownsRow w.heap.size 3 1 v (waits All).length ((waits All).map (Value.int .i64)) ∧ Below w.heap.size w w' := by
  obtain ⟨mb, F, h1, hok1, hok2, ⟨D, hown, hr⟩, h3⟩ := h
  have hF : ∀ k, int64 k → ((F k).isSome = (under All k).isSome) := by
    intro k hk
    have h := h3 k hk
    cases hu : under All k with
    | none => rw [hu] at h; rw [show F k = none from h]; rfl
    | some m => rw [hu] at h; obtain ⟨sl, e, _⟩ := h; rw [e]; rfl
  have hperm := keys_perm hown hr (by omega) hF
  obtain ⟨⟨c0, c1⟩, f0, f1⟩ := PB.bx h1
  have hsize := hown.size_le
  have hbl := hown.lt
  have HP := Lib.hid hperm
  refine (callsIn_wide (n := 6)).1 ?_
  have hseq : SeqGives Fence.wide 2 Try.prog 37 #[.pointer (some ⟨w.heap.size, 0, none⟩)] encZ (fun ss => ss.Perm (intKeys D)) (Maps.size D) (w.alloc (.cells #[.map (some mb)] 62)) :=
    AnyZI.keys_gives (ρ := Try.keys32_ren) { Try.keys32 with } Fence.wide _ trivial rfl (by omega) w.heap.size mb All.length D _ (by simp) (by simp) (by
      obtain ⟨es, clock, hb, Ft, hs, hD⟩ := hown
      exact ⟨es, clock, (Below.heap_alloc _ _ mb hbl).trans hb, Ft, hs, hD⟩)
  have cK : ∀ mb W, CallsIn Fence.wide 5 Try.prog 32 #[.map mb] W fun e w' => e = .returned (.func (.func 37) #[] #[.pointer (some ⟨W.heap.size, 0, none⟩)]) ∧ w' = W.alloc (.cells #[.map mb] 62) := fun mb W => AnyZI.keys_in Try.keys32 Fence.wide 5 trivial rfl mb W
  have cS := AnyZI.sorted_in Try.sorted31 Fence.wide 5 trivial trivial trivial trivial rfl (by omega) (sortsP _) (enters_of Try.func36 (by kernel_rfl) rfl) 37 #[.pointer (some ⟨w.heap.size, 0, none⟩)] trivial (enters_of Try.func37 (by kernel_rfl) rfl) _ _ (by unfold maxLen; omega) (by omega) _ hseq
  change CallsIn _ _ Try.prog 31 _ _ _ at cS
  have hfK : Fence.wide.fn 32 := trivial
  have hfS : Fence.wide.fn 31 := trivial
  clear h1 h3 hr hown hF hperm hok1 hok2
  refine callsIn_of_wp Try.func18 rfl trivial ?_ rfl
  simp only [Try.ntmps18, List.size_toArray, List.length_cons, List.length_nil, Nat.reduceAdd, Nat.reduceSub, Array.replicate_succ, Array.replicate_zero, List.push_toArray, List.append_toArray, List.nil_append, List.cons_append]
  gi_wp2_with (first
    | (gi_at_call 32; refine (cK _ _).mono ?_; rintro e w' ⟨rfl, rfl⟩)
    | (gi_at_call 31; refine cS.mono ?_; rintro e w' ⟨v, ss, rfl, hS, hrow, hnil, hb⟩))
  go_ret
  have hss : ss.mergeSort (fun x y => decide (x ≤ y)) = waits All := by
    rw [show ss.mergeSort (fun x y => decide (x ≤ y)) = (waits All).mergeSort (fun x y => decide (x ≤ y)) from mergeSort_of_perm_i (hS.trans HP.out.symm), sort_rising (waits_rise All)]
  have hlen : ss.length = (waits All).length := (hS.trans HP.out.symm).length_eq
  have hrow2 := ownsRow_base_a hrow (base' := w.heap.size) (by simp)
  rw [hss, hlen] at hrow2
  exact ⟨v, rfl, hrow2, ((Below.refl _ w).alloc (Nat.le_refl _) _).trans (hb.mono (by simp))⟩
end Go.Proofs.Ytdgcmihnbkamgaa
