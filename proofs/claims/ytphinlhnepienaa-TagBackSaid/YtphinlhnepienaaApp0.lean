/- append(s, make([]byte, m)...). -/
import Derived.Test.YtphinlhnepienaaLy
import Derived.Deep.AppendSrc
import Derived.Laws.CopyRow
namespace Go.Proofs.Ytphinlhnepienaa
open Go.RowKit
set_option linter.unusedVariables false
set_option linter.unusedSimpArgs false
theorem wrap_nat {m : Nat} (h : m ≤ 9223372036854775807) : IntKind.i64.wrap (m : Int) = (m : Int) := IntWalk.i64_in _ ⟨by omega, by omega⟩
theorem run_append0_ly {P : Program} (w : World) (t tn ty e : TypeId) (i : TypeInfo) (ht : P.underlying t = some (.slice e)) (hn : P.underlying tn = some (.int .i64)) (hi : P.info? e = some i) (hz : i.zero = some (.int .u8 0)) (hsize : i.size = 1) (hby : i.bytes = 1)
    (A : Option Addr) (n c : Nat) (f : Nat → Value) (hl : Ly w e 1 A n c f) (hn0 : 0 < n) (m : Nat) (hm : 0 < m) (hbytes : n + m ≤ 140737488355328) :
    ∃ A' c' w', (Builtin.append_ #[t, tn] ty #[.slice A n c, .int .i64 (m : Int)]).run P w = .ok (.slice A' (n + m) c') w' ∧ Ly w' e 1 A' (n + m) c' (fun j => if j < n then f j else .int .u8 0) ∧ Keep (blk A) w w' ∧ (A' = A ∨ A' = some ⟨w.heap.size, 0, none⟩) := by
  have hw := wrap_nat (m := m) (by omega)
  have h0 : ¬ ((m : Int) < 0) := by omega
  have h48 : ¬ (281474976710656 < (m : Int)) := by omega
  have hzc : ∀ k, Builtin.zeroCells #[.int .u8 0] k = ((List.range k).map fun _ => (Value.int .u8 0)).toArray := fun k => by
    apply Array.ext
    · simp [Builtin.zeroCells]
    · intro j h1 h2
      simp [Builtin.zeroCells]
      have : j % 1 = 0 := Nat.mod_one j
      simp [this]
  have hzs : (Value.int .u8 0).cells = #[Value.int .u8 0] := rfl
  cases A with
  | none =>
    have := hl.2.2.1 rfl
    have := hl.1
    omega
  | some a =>
    obtain ⟨q, cur, fr, rfl, hh, hfr, hcs, r⟩ := hl.2.2.2 a rfl
    have hmax : (n + m : Int) ≤ 9223372036854775807 := by omega
    by_cases hroom : n + m ≤ c
    · have hfr0 : fr = (0, 0) := by
        rcases hfr with h | ⟨h, _⟩
        · exact h
        · omega
      subst hfr0
      have hst := run_storeCells_at (P := P) q n e ((List.range m).map fun _ => (Value.int .u8 0)) 0 cur w hh (by simp; omega) (fun v hv => by
        simp at hv
        rw [← hv.2]
        rfl)
      simp only [Nat.add_zero, List.length_map, List.length_range] at hst
      refine ⟨some ⟨q, 0, none⟩, c, w.setRow q (cur.toList.take n ++ ((List.range m).map fun _ => (Value.int .u8 0)) ++ cur.toList.drop (n + m)).toArray, ?_, ⟨hroom, hl.2.1, (fun h => by cases h), fun a ha => ?_⟩, ⟨rfl, rfl, rfl, by simp, fun k _ hk => setRow_other w q k _ (fun e => hk (by rw [e]; exact List.mem_singleton.2 rfl))⟩, .inl rfl⟩
      · have hadd : (⟨q, 0, none⟩ : Addr).add n = ⟨q, n, none⟩ := by rw [of_add rfl, Nat.zero_add]
        simp [Builtin.append_, run_underlying ht, run_underlying hn, sizeOf, typeInfo, zeroValue, hi, hz, hsize, hby, asInt, asIntOf, hw, h0, h48, hroom, hzs, hzc, hadd, Nat.ne_of_gt hm, hst]
      · injection ha with ha
        subst ha
        refine ⟨q, _, (0, 0), rfl, setRow_heap w q cur _ e _ hh, .inl rfl, ?_, fun j hj => ?_⟩
        · simp
          omega
        · have hcl : n + m ≤ cur.size := by omega
          rw [List.getElem?_toArray]
          simp only
          by_cases h : j < n
          · rw [if_pos h, List.append_assoc, List.getElem?_append_left (by simp; omega), List.getElem?_take, if_pos h, Array.getElem?_toList]
            exact r j (by omega)
          · rw [if_neg h, List.append_assoc, List.getElem?_append_right (by simp; omega), List.getElem?_append_left (by simp; omega)]
            simp only [List.getElem?_map, List.length_take, Array.length_toList, List.length_map, List.length_range]
            rw [List.getElem?_range (by omega)]
            rfl
    · have holds : ∀ (j : Nat) (u : Value), ((List.range n).map f)[j]? = some u → w.drew.cell? ((⟨q, 0, none⟩ : Addr).add j) = some u := by
        intro j u hu
        have hj : j < n := by
          have := (List.getElem?_eq_some_iff.1 hu).1
          simpa using this
        rw [of_add rfl]
        have h2 : f j = u := by
          simp [hj] at hu
          exact hu
        have := r j (by omega)
        rw [h2] at this
        rw [World.cell?_drew]
        simp only [World.cell?, hh]
        simpa using this
      have hold := run_firstCells_some (P := P) w.drew 1 n ⟨q, 0, none⟩ n c ((List.range n).map f) (by simp) holds
      have hfit := growslice_fits (old := c) (need := n + m) (bytes := 1) (by omega) (by omega)
      have h63' : ¬ (9223372036854775807 < ((n : Int) + (m : Int))) := by omega
      have h48' : ¬ (281474976710656 < Builtin.nextslicecap (n + m) c) := by omega
      have hge := grownCap_ge w (n + m) c e
      refine ⟨some ⟨w.heap.size, 0, none⟩, grownCap w (n + m) c e, w.drew.alloc (.cells (((List.range n).map f).toArray ++ ((List.range m).map fun _ => (Value.int .u8 0)).toArray ++ Builtin.zeroCells #[.int .u8 0] (grownCap w (n + m) c e - (n + m))) e), ?_, ⟨hge, grownCap_le_maxLen w (n + m) c e (by simp only [maxLen]; omega), (fun h => by cases h), fun a ha => ?_⟩, (Keep.refl _ w).drew.alloc _, .inr rfl⟩
      · simp [Builtin.append_, run_underlying ht, run_underlying hn, sizeOf, typeInfo, zeroValue, hi, hz, hsize, hby, asInt, asIntOf, hw, h0, h48, hroom, hzs, hzc, Nat.ne_of_gt hm, h63', h48', Question.forced, hold, newRow, grownCap]
      · injection ha with ha
        subst ha
        refine ⟨_, _, (0, 0), rfl, heap_alloc_new w.drew _, .inl rfl, ?_, fun j hj => ?_⟩
        · simp [size_zeroCells]
          omega
        · rw [← Array.getElem?_toList]
          simp only [Array.toList_append]
          by_cases h : j < n
          · rw [if_pos h, List.append_assoc, List.getElem?_append_left (by simp; omega)]
            simp [h]
          · rw [if_neg h, List.append_assoc, List.getElem?_append_right (by simp; omega), List.getElem?_append_left (by simp; omega)]
            simp only [List.getElem?_map, List.length_take, Array.length_toList, List.length_map, List.length_range]
            rw [List.getElem?_range (by omega)]
            rfl
end Go.Proofs.Ytphinlhnepienaa
