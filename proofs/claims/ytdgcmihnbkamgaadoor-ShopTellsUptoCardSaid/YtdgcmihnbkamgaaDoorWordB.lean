/- The document's word(text, k): the k-th word of a text: the walk. Condition: the text has at most 2^62 bytes. -/
import Derived.Test.YtdgcmihnbkamgaaDoorWordA
import Derived.Deep.LoopGhost
import Derived.Lib.ConvBytes
import Derived.Lib.AppendStr
import Derived.IntWalk
import Derived.Laws.BytesArg
import Derived.Lib.Hide
namespace Go.Proofs.YtdgcmihnbkamgaaDoor
open Go.RowKit
set_option linter.unusedVariables false
/-- One byte more: how many blanks have been, and the word. -/
def wStep (k : Int) (s : Int × List UInt8) (c : UInt8) : Int × List UInt8 := if c = 32 then (s.1 + 1, s.2) else if s.1 = k then (s.1, s.2 ++ [c]) else s
def wAll (k : Int) (l : List UInt8) : Int × List UInt8 := l.foldl (wStep k) (0, [])
theorem wAll_snoc (k : Int) (l : List UInt8) (c : UInt8) : wAll k (l ++ [c]) = wStep k (wAll k l) c := by unfold wAll; rw [List.foldl_append]; rfl
theorem wAll_bound (k : Int) (l : List UInt8) : 0 ≤ (wAll k l).1 ∧ (wAll k l).1 ≤ l.length ∧ (wAll k l).2.length ≤ l.length := by
  have key : ∀ n : Nat, ∀ l : List UInt8, l.length = n → 0 ≤ (wAll k l).1 ∧ (wAll k l).1 ≤ l.length ∧ (wAll k l).2.length ≤ l.length := by
    intro n
    induction n with
    | zero => intro l hl; obtain rfl := List.length_eq_zero_iff.1 hl; simp [wAll]
    | succ n ih =>
      intro l hl
      obtain ⟨l', c, rfl⟩ : ∃ l' c, l = l' ++ [c] := ⟨l.dropLast, l.getLast (by intro e; simp [e] at hl), (List.dropLast_concat_getLast _).symm⟩
      have h := ih l' (by simpa using hl)
      rw [wAll_snoc]
      unfold wStep
      split
      · simp; omega
      · split <;> simp <;> omega
  exact key _ l rfl
theorem take_snoc (s : ByteArray) (i : Nat) (h : i < s.size) : s.data.toList.take (i + 1) = s.data.toList.take i ++ [s[i]] := by
  rw [List.take_succ_eq_append_getElem (by simpa using h)]; rfl
theorem conv1 (W : World) (n : Int) : (convert 38 9 (.slice (some ⟨W.heap.size, 0, none⟩) 1 1)).run Tryd.prog (W.alloc (.cells #[.int .u8 n] 5)) = .ok (.string ⟨#[UInt8.ofNat n.toNat]⟩) (W.alloc (.cells #[.int .u8 n] 5)) := by
  have h := run_convert_bytes_arg (P := Tryd.prog) (W.alloc (.cells #[.int .u8 n] 5)) 38 5 Tryd.underlying38 Tryd.underlying5 W.heap.size 0 1 1 [n] rfl (by
    intro i hi
    obtain rfl : i = 0 := by omega
    simp [go_sem]) 9 Tryd.underlying9
  exact h
theorem str_snoc (u : List UInt8) (c : UInt8) : (⟨u.toArray⟩ : ByteArray) ++ ⟨#[c]⟩ = ⟨(u ++ [c]).toArray⟩ := by
  apply ByteArray.ext
  simp
set_option maxHeartbeats 4000000 in
set_option maxRecDepth 100000 in
theorem kth_calls (s : ByteArray) (k : Int) (hs : s.size ≤ 4611686018427387904) (w : World) : Calls Tryd.prog 10 #[.string s, .int .i64 k] w fun r w' => r = .returned (.string ⟨(wAll k s.data.toList).2.toArray⟩) ∧ Below w.heap.size w w' := by
  have hcv := conv1
  go_enter Tryd.func10, Tryd.ntmps10
  go_wp2
  go_loopg [5, 6, 7] s.size (fun q v5 v6 v7 wr => ∃ i : Nat, i ≤ s.size ∧ v7 = .int .i64 i ∧ v6 = .int .i64 (wAll k (s.data.toList.take i)).1 ∧ v5 = .string ⟨(wAll k (s.data.toList.take i)).2.toArray⟩ ∧ q + i = s.size ∧ Below w.heap.size w wr)
  case atStart => exact ⟨0, Nat.zero_le _, rfl, rfl, rfl, by omega, Below.refl _ _⟩
  case round =>
    obtain ⟨i, hi, rfl, rfl, rfl, hq, hB⟩ := hrel
    have HQ := Lib.hid hq
    clear hq
    by_cases hlt : i < s.size
    · have hsn := Lib.hid (wAll_snoc k (s.data.toList.take i) s[i])
      have htk := Lib.hid (take_snoc s i hlt)
      obtain ⟨a, ha⟩ : ∃ a, (wAll k (s.data.toList.take i)).1 = a := ⟨_, rfl⟩
      obtain ⟨u, hu⟩ : ∃ u, (wAll k (s.data.toList.take i)).2 = u := ⟨_, rfl⟩
      have hb := wAll_bound k (s.data.toList.take i)
      rw [ha, hu, List.length_take] at hb
      have ha0 : 0 ≤ a := hb.1
      have ha1 : a ≤ 4611686018427387904 := by have := hb.2.1; simp at this; omega
      have hul : ¬ (9223372036854775807 < u.length + 1) := by have := hb.2.2; simp at this; omega
      rw [ha, hu]
      have HA := Lib.hid ha
      have HU := Lib.hid hu
      clear ha hu hb
      by_cases h32 : s[i] = 32
      · have hcb : ((s[i].toNat : Int) == 32) = true := by rw [h32]; rfl
        have H32 := Lib.hid h32
        clear h32
        go_wp2
        go_roundg (s.size - (i + 1))
        case measure => have := HQ.out; omega
        case rel => exact ⟨i + 1, by omega, by go_num, by rw [htk.out, hsn.out]; unfold wStep; rw [if_pos H32.out, HA.out], by rw [htk.out, hsn.out]; unfold wStep; rw [if_pos H32.out, HU.out], by have := HQ.out; omega, hB⟩
      · have hcb : ((s[i].toNat : Int) == 32) = false := by
          rw [beq_eq_false_iff_ne]
          intro h
          exact h32 (UInt8.toNat_inj.1 (show s[i].toNat = 32 by omega))
        have H32 := Lib.hid h32
        clear h32
        by_cases hak : a = k
        · have hkb : (a == k) = true := beq_iff_eq.2 hak
          have HAK := Lib.hid hak
          clear hak
          go_wp2
          go_roundg (s.size - (i + 1))
          case measure => have := HQ.out; omega
          case rel => exact ⟨i + 1, by omega, by go_num, by rw [htk.out, hsn.out]; unfold wStep; rw [if_neg H32.out, HA.out, if_pos HAK.out], by rw [htk.out, hsn.out]; unfold wStep; rw [if_neg H32.out, HA.out, if_pos HAK.out, HU.out, str_snoc], by have := HQ.out; omega, hB.alloc hB.size _⟩
        · have hkb : (a == k) = false := beq_eq_false_iff_ne.2 hak
          have HAK := Lib.hid hak
          clear hak
          go_wp2
          go_roundg (s.size - (i + 1))
          case measure => have := HQ.out; omega
          case rel => exact ⟨i + 1, by omega, by go_num, by rw [htk.out, hsn.out]; unfold wStep; rw [if_neg H32.out, HA.out, if_neg HAK.out, HA.out], by rw [htk.out, hsn.out]; unfold wStep; rw [if_neg H32.out, HA.out, if_neg HAK.out, HU.out], by have := HQ.out; omega, hB⟩
    · have hl : s.data.toList.take i = s.data.toList := List.take_of_length_le (by simp; omega)
      rw [hl]
      have HL := Lib.hid hl
      clear hl
      go_wp2
      go_ret
      exact ⟨rfl, hB⟩
end Go.Proofs.YtdgcmihnbkamgaaDoor
