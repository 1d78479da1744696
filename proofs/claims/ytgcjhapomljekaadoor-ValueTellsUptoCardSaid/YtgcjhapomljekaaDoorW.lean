/- What the functions answer, and the laws. -/
import Derived.Test.YtgcjhapomljekaaDoorP
import Derived.Test.YtgcjhapomljekaaDoorProg
import Derived.WalkKit
import Derived.WalkSpells
import Derived.WalkLawsBesides
import Derived.Lib.Strings
import Derived.Lib.Slices
import Derived.Lib.Walk
import Derived.Lib.Bytealg
import Derived.ProofKit
import Derived.Laws.CopyRow
import Derived.Laws.CopyOwn
import Derived.Shelf.Bytes.SlClone
import Derived.LoopTactic
import Derived.RegionTactic
import Derived.Deep.QuietTactic
import Derived.BigQuiet
import Derived.Ground.NamesProg
import Derived.Shelf.Lay
import Derived.Shelf.Strings.Replace

set_option linter.unusedVariables false

set_option linter.unusedSimpArgs false

set_option linter.unusedSectionVars false

open Go Go.Ev

namespace Go.Proofs.YtgcjhapomljekaaDoor
open Go.RowKit Go.Shelf

theorem t22s : Tryd.prog.underlying 30 = some (.slice 5) := by kernel_rfl
set_option maxHeartbeats 2000000 in
set_option maxRecDepth 100000 in
theorem lent_some (a : Addr) (n c : Nat) (xs : List Int) (w : World) (hx : xs.length = n) (hbig : n + 1 ≤ 140737488355328) (hc : ∀ i, i < n → w.cell? (a.add i) = some (.int .u8 (xs.getD i 0))) :
    Calls Tryd.prog 17 #[.slice (some a) n c] w fun e w' => ∃ v', e = .returned v' ∧ NewRow w w' (xs.map (PV.int .u8)) [.int .u8 77] v' := by
  obtain ⟨i0, hi, hz0, hz1, hz2⟩ := info_parts (P := Tryd.prog) (e := 5) (z := .int .u8 0) (size := 1) (bytes := 1) (by kernel_rfl)
  go_enter Tryd.func17, Tryd.ntmps17
  go_wp2
  rw [run_make w 30 5 i0 (.int .u8 0) t22s hi hz0 .i64 .i64 (n : Int) ((n : Int) + 1) (by omega) (by omega) (by rw [hz2]; omega) (by omega)]
  have hcz : ((n : Int) + 1).toNat * i0.size = n + 1 := by rw [hz1]; omega
  rw [hcz]
  simp only [Result.andThen]
  rw [Oper.upon_value]
  go_wp2
  have hcur := alloc_heap w (Obj.cells (madeCells #[Value.int .u8 0] (n + 1)) 5)
  have hB := (Below.refl w.heap.size w).alloc (Nat.le_refl _) (Obj.cells (madeCells #[Value.int .u8 0] (n + 1)) 5)
  have hsrc : ∀ j v, (xs.map (Value.int .u8))[j]? = some v → (w.alloc (Obj.cells (madeCells #[Value.int .u8 0] (n + 1)) 5)).cell? (a.add j) = some v := by
    intro j v hj
    have hjn : j < n := by
      have := (List.getElem?_eq_some_iff.1 hj).1
      simp at this
      omega
    refine Lib.cell?_alloc_some _ ?_
    rw [hc j hjn]
    rw [← hj]
    simp [List.getD, List.getElem?_eq_getElem (show j < xs.length by omega)]
  generalize w.alloc (Obj.cells (madeCells #[Value.int .u8 0] (n + 1)) 5) = w1 at hcur hsrc hB ⊢
  have hsz : (madeCells #[Value.int .u8 0] (n + 1)).size = n + 1 := size_madeCells _ _
  generalize madeCells #[Value.int .u8 0] (n + 1) = cur at hcur hsz
  have hcp := run_copy_row (P := Tryd.prog) w1 30 30 3 5 w.heap.size 0 n (n + 1) a n c cur 5 (xs.map (Value.int .u8)) t22s (by rw [hi]; simp [hz1]) hcur (by simp [hx]) hsrc (by simp [hx, hsz]) (by intro v hv; obtain ⟨x, _, rfl⟩ := List.mem_map.1 hv; rfl)
  rw [hcp]
  simp only [Result.andThen]
  rw [Oper.upon_value]
  have hB2 := Go.below_setRow hB (Nat.le_refl _) (cur.toList.take 0 ++ xs.map (Value.int .u8) ++ cur.toList.drop (0 + (xs.map (Value.int .u8)).length)).toArray
  have hg2 := setRow_heap w1 w.heap.size cur (cur.toList.take 0 ++ xs.map (Value.int .u8) ++ cur.toList.drop (0 + (xs.map (Value.int .u8)).length)).toArray 5 (0, 0) hcur
  generalize w1.setRow w.heap.size (cur.toList.take 0 ++ xs.map (Value.int .u8) ++ cur.toList.drop (0 + (xs.map (Value.int .u8)).length)).toArray = w2 at hB2 hg2 ⊢
  generalize hrow : (cur.toList.take 0 ++ xs.map (Value.int .u8) ++ cur.toList.drop (0 + (xs.map (Value.int .u8)).length)).toArray = row at hg2
  have hrs : row.size = n + 1 := by rw [← hrow]; simp [hx, hsz]
  have hcell : w2.cell? ⟨w.heap.size, n, none⟩ = some (row.getD n Go.undef) := by
    simp [World.cell?, hg2, Array.getD_eq_getD_getElem?, hrs]
  have hfz : w2.frozen? ⟨w.heap.size, n, none⟩ = false := by simp [World.frozen?, hg2]
  go_wp2
  go_ret
  have hg3 := setCell_heap w2 w.heap.size n row (.int .u8 77) 5 (0, 0) hg2
  have hB3 := hB2.setCell (p := ⟨w.heap.size, n, none⟩) (Nat.le_refl _) (.int .u8 77)
  refine ⟨_, rfl, hB3.os, hB3.tape, hB3.output, hB3.size, hB3.block, .inr ⟨w.heap.size, n + 1, _, 5, (0, 0), by simp [hx], Nat.le_refl _, hg3, .inl rfl, by simp [hrs], by simp [hx], by omega, fun i x hi' => ?_, fun j y hj => ?_⟩⟩
  · rw [List.getElem?_map] at hi'
    cases hxi : xs[i]? with
    | none => rw [hxi] at hi'; cases hi'
    | some z =>
      rw [hxi] at hi'
      cases hi'
      have hil := (List.getElem?_eq_some_iff.1 hxi).1
      refine ⟨.int .u8 z, ?_, fun _ _ => .int _ _⟩
      have hne : ¬ n = i := by omega
      rw [Array.getElem?_setIfInBounds, if_neg hne, ← hrow]
      simp [List.getElem?_append, hil]
      exact (List.getElem?_eq_some_iff.1 hxi).2
  · cases j with
    | zero =>
      simp at hj
      subst hj
      refine ⟨.int .u8 77, ?_, fun _ _ => .int _ _⟩
      rw [Array.getElem?_setIfInBounds]
      simp [hx, hrs]
    | succ j => simp at hj
set_option maxHeartbeats 2000000 in
set_option maxRecDepth 100000 in
theorem lent_none (w : World) : Calls Tryd.prog 17 #[.slice none 0 0] w fun e w' => ∃ v', e = .returned v' ∧ NewRow w w' [] [.int .u8 77] v' := by
  obtain ⟨i0, hi, hz0, hz1, hz2⟩ := info_parts (P := Tryd.prog) (e := 5) (z := .int .u8 0) (size := 1) (bytes := 1) (by kernel_rfl)
  go_enter Tryd.func17, Tryd.ntmps17
  go_wp2
  rw [run_make w 30 5 i0 (.int .u8 0) t22s hi hz0 .i64 .i64 0 1 (by omega) (by omega) (by rw [hz2]; omega) (by omega)]
  have hcz : (1 : Int).toNat * i0.size = 1 := by rw [hz1]; rfl
  rw [hcz]
  simp only [Result.andThen]
  rw [Oper.upon_value]
  go_wp2
  have hcur := alloc_heap w (Obj.cells (madeCells #[Value.int .u8 0] 1) 5)
  have hB := (Below.refl w.heap.size w).alloc (Nat.le_refl _) (Obj.cells (madeCells #[Value.int .u8 0] 1) 5)
  generalize w.alloc (Obj.cells (madeCells #[Value.int .u8 0] 1) 5) = w1 at hcur hB ⊢
  have hsz : (madeCells #[Value.int .u8 0] 1).size = 1 := size_madeCells _ _
  generalize madeCells #[Value.int .u8 0] 1 = cur at hcur hsz
  rw [run_copy_none (P := Tryd.prog) w1 30 30 3 5 (some ⟨w.heap.size, 0, none⟩) none 0 1 0 0 t22s (by rw [hi]; simp [hz1]) rfl]
  simp only [Result.andThen]
  rw [Oper.upon_value]
  have hcell : w1.cell? ⟨w.heap.size, 0, none⟩ = some (cur.getD 0 Go.undef) := by
    simp [World.cell?, hcur, Array.getD_eq_getD_getElem?, hsz]
  have hfz : w1.frozen? ⟨w.heap.size, 0, none⟩ = false := by simp [World.frozen?, hcur]
  go_wp2
  go_ret
  have hg3 := setCell_heap w1 w.heap.size 0 cur (.int .u8 77) 5 (0, 0) hcur
  have hB3 := hB.setCell (p := ⟨w.heap.size, 0, none⟩) (Nat.le_refl _) (.int .u8 77)
  refine ⟨_, rfl, hB3.os, hB3.tape, hB3.output, hB3.size, hB3.block, .inr ⟨w.heap.size, 1, _, 5, (0, 0), rfl, Nat.le_refl _, hg3, .inl rfl, by simp [hsz], by simp, by omega, fun i x hi' => by simp at hi', fun j y hj => ?_⟩⟩
  cases j with
  | zero =>
    simp at hj
    subst hj
    refine ⟨.int .u8 77, ?_, fun _ _ => .int _ _⟩
    rw [Array.getElem?_setIfInBounds]
    simp [hsz]
  | succ j => simp at hj
end Go.Proofs.YtgcjhapomljekaaDoor

open Go Go.Ev

namespace Go.Proofs.YtgcjhapomljekaaDoor
open Go.RowKit Go.Shelf

theorem t9s : Tryd.prog.underlying 9 = some .string := by kernel_rfl
theorem t5s : Tryd.prog.underlying 5 = some (.int .u8) := by kernel_rfl
set_option maxHeartbeats 2000000 in
set_option maxRecDepth 100000 in
theorem kept_no (v0 v1 : Value) (s0 s1 : ByteArray) (w : World) (h0 : (convert 30 9 v0).run Tryd.prog w = .ok (.string s0) w) (h1 : (convert 30 9 v1).run Tryd.prog w = .ok (.string s1) w) (hs : (s0.toList == s1.toList) = false) :
    Calls Tryd.prog 22 #[v0, v1] w fun e w' => e = .returned (.bool false) ∧ w' = w := by
  go_enter Tryd.func22, Tryd.ntmps22
  go_wp2
  go_ret
  exact ⟨rfl, rfl⟩
set_option maxHeartbeats 2000000 in
set_option maxRecDepth 100000 in
theorem kept_yes (b n c : Nat) (A1 : Option Addr) (m c1 : Nat) (s0 s1 : ByteArray) (z : Int) (w : World) (h0 : (convert 30 9 (.slice (some ⟨b, 0, none⟩) n c)).run Tryd.prog w = .ok (.string s0) w) (h1 : (convert 30 9 (.slice A1 m c1)).run Tryd.prog w = .ok (.string s1) w) (hs : (s0.toList == s1.toList) = true)
    (hm : m + 1 ≤ c) (hbig : m + 1 ≤ 140737488355328) (hz : w.cell? ⟨b, m, none⟩ = some (.int .u8 z)) :
    Calls Tryd.prog 22 #[.slice (some ⟨b, 0, none⟩) n c, .slice A1 m c1] w fun e w' => e = .returned (.bool (z == 77)) ∧ w' = w := by
  go_enter Tryd.func22, Tryd.ntmps22
  go_wp2
  go_ret
  exact ⟨rfl, rfl⟩
end Go.Proofs.YtgcjhapomljekaaDoor

open Go Go.Ev

namespace Go.Proofs.YtgcjhapomljekaaDoor
open Go.RowKit Go.Shelf

set_option maxHeartbeats 4000000 in
set_option maxRecDepth 100000 in
theorem owned_walk {w : World} {b N c0 : Nat} {A : Nat → Option Addr} {n cp g : Nat → Nat} (h : RowsOf w b N A n cp g) (hN : N ≤ 4611686018427387904) :
    Calls Tryd.prog 23 #[.slice (some ⟨b, 0, none⟩) N c0] w fun e w' => e = .returned (.bool true) ∧ Written w w' N cp g cp := by
  go_enter Tryd.func23, Tryd.ntmps23
  go_wp2
  go_loopw [3] (fun i wr => ∃ k : Nat, k ≤ N ∧ i = .int .i64 k ∧ Written w wr N cp g (fun j => if j < k then cp j else 0)) (fun i _ => N - (intOf i).toNat)
  case atStart => exact ⟨0, Nat.zero_le _, rfl, by simpa using Written.start h⟩
  case round =>
    obtain ⟨i, hi, rfl, hw⟩ := hrel
    by_cases hlt : i < N
    · have hc := hw.cell h hlt
      by_cases hcp : 0 < cp i
      · obtain ⟨hA, hgb, _⟩ := h.at_ i hlt hcp
        rw [hA] at hc
        have hsm := h.small i hlt
        go_wp2
        go_quiet (fail)
        go_wp2
        rename_i nq
        have hw0 : Written w (wr.drewN nq) N cp g (fun j => if j < i then cp j else if j = i then 0 else 0) := by
          refine Written.weaken (f := fun j => if j < i then cp j else 0) ⟨hw.os, hw.tape, hw.output, hw.size, hw.same, hw.row⟩ fun j _ _ => .inl ?_
          split <;> simp
        go_loopw [5] (fun k wr' => ∃ q : Nat, q ≤ cp i ∧ k = .int .i64 q ∧ Written w wr' N cp g (fun j => if j < i then cp j else if j = i then q else 0)) (fun k _ => cp i - (intOf k).toNat)
        case atStart => exact ⟨0, Nat.zero_le _, rfl, hw0⟩
        case round =>
          obtain ⟨q, hq, rfl, hwq⟩ := hrel
          by_cases hlq : q < cp i
          · obtain ⟨⟨v, hv⟩, hz⟩ := hwq.thaw hlt hlq
            have hput := hwq.put h hlt hlq (by simp)
            go_wp2
            go_roundw
            case rel =>
              refine ⟨q + 1, by omega, by go_num, ?_⟩
              refine hput.weaken fun j _ _ => .inl ?_
              split
              · rename_i hj
                rw [if_neg (by omega)]
                omega
              · split <;> simp_all
            case measure => simp [intOf]; omega
          · have hqe : q = cp i := by omega
            subst hqe
            go_wp2
            go_roundw
            case rel =>
              refine ⟨i + 1, by omega, by go_num, ?_⟩
              refine hwq.weaken fun j _ _ => .inl ?_
              split
              · split
                · omega
                · rw [if_pos (by omega)]
                  have : j = i := by omega
                  subst this
                  omega
              · omega
            case measure => simp [intOf]; omega
      · have e0 : cp i = 0 := by omega
        have hsm := h.small i hlt
        have n0 : n i = 0 := by omega
        rw [e0, n0] at hc
        have hw0 : ∀ wx : World, wx.heap = wr.heap → wx.os = wr.os → wx.tape = wr.tape → wx.output = wr.output → Written w wx N cp g (fun j => if j < i + 1 then cp j else 0) := by
          intro wx h1 h2 h3 h4
          refine Written.weaken (f := fun j => if j < i then cp j else 0) ⟨h2.trans hw.os, h3.trans hw.tape, h4.trans hw.output, by rw [h1]; exact hw.size, fun k hk => by rw [h1]; exact hw.same k hk, fun j hj hc => by rw [h1]; exact hw.row j hj hc⟩ fun j _ hc => .inl ?_
          have : j ≠ i := fun e => by subst e; omega
          split
          · rw [if_pos (by omega)]
            exact Nat.le_refl _
          · exact Nat.zero_le _
        cases hAi : A i with
        | none =>
          rw [hAi] at hc
          go_wp2
          go_quiet (fail)
          go_wp2
          rename_i nq
          go_loopw [5] (fun k wr' => k = .int .i64 0 ∧ wr' = wr.drewN nq) (fun k _ => 0)
          case atStart => exact ⟨rfl, rfl⟩
          case round =>
            obtain ⟨rfl, rfl⟩ := hrel
            go_wp2
            go_roundw
            case rel => exact ⟨i + 1, by omega, by go_num, hw0 _ rfl rfl rfl rfl⟩
            case measure => simp [intOf]; omega
        | some a =>
          rw [hAi] at hc
          go_wp2
          go_quiet (fail)
          go_wp2
          rename_i nq
          go_loopw [5] (fun k wr' => k = .int .i64 0 ∧ wr' = wr.drewN nq) (fun k _ => 0)
          case atStart => exact ⟨rfl, rfl⟩
          case round =>
            obtain ⟨rfl, rfl⟩ := hrel
            go_wp2
            go_roundw
            case rel => exact ⟨i + 1, by omega, by go_num, hw0 _ rfl rfl rfl rfl⟩
            case measure => simp [intOf]; omega
    · have hie : i = N := by omega
      subst hie
      go_wp2
      have hwf : Written w wr i cp g cp := hw.weaken fun j hj _ => .inl (by rw [if_pos hj]; exact Nat.le_refl _)
      clear hw
      go_loopw [6] (fun k wr' => ∃ q : Nat, q ≤ i ∧ k = .int .i64 q ∧ Written w wr' i cp g cp) (fun k _ => i - (intOf k).toNat)
      case atStart => exact ⟨0, Nat.zero_le _, rfl, hwf⟩
      case round =>
        obtain ⟨q, hq, rfl, hw⟩ := hrel
        by_cases hlq : q < i
        · have hc := hw.cell h hlq
          have hsm := h.small q hlq
          by_cases hcp : 0 < cp q
          · obtain ⟨hA, hgb, _⟩ := h.at_ q hlq hcp
            rw [hA] at hc
            go_wp2
            go_quiet (fail)
            go_wp2
            rename_i nq
            have hwq : Written w (wr.drewN nq) i cp g cp := ⟨hw.os, hw.tape, hw.output, hw.size, hw.same, hw.row⟩
            go_loopw [8] (fun k wr' => ∃ r : Nat, r ≤ cp q ∧ k = .int .i64 r ∧ Written w wr' i cp g cp) (fun k _ => cp q - (intOf k).toNat)
            case atStart => exact ⟨0, Nat.zero_le _, rfl, hwq⟩
            case round =>
              obtain ⟨r, hr, rfl, hwr⟩ := hrel
              by_cases hlr : r < cp q
              · have hby := hwr.byte hlq hlr
                go_wp2
                go_roundw
                case rel => exact ⟨r + 1, by omega, by go_num, hwr⟩
                case measure => simp [intOf]; omega
              · have hre : r = cp q := by omega
                subst hre
                go_wp2
                go_roundw
                case rel => exact ⟨q + 1, by omega, by go_num, hwr⟩
                case measure => simp [intOf]; omega
          · have e0 : cp q = 0 := by omega
            have n0 : n q = 0 := by omega
            rw [e0, n0] at hc
            cases hAi : A q with
            | none =>
              rw [hAi] at hc
              go_wp2
              go_quiet (fail)
              go_wp2
              rename_i nq
              go_loopw [8] (fun k wr' => k = .int .i64 0 ∧ wr' = wr.drewN nq) (fun k _ => 0)
              case atStart => exact ⟨rfl, rfl⟩
              case round =>
                obtain ⟨rfl, rfl⟩ := hrel
                go_wp2
                go_roundw
                case rel => exact ⟨q + 1, by omega, by go_num, ⟨hw.os, hw.tape, hw.output, hw.size, hw.same, hw.row⟩⟩
                case measure => simp [intOf]; omega
            | some a =>
              rw [hAi] at hc
              go_wp2
              go_quiet (fail)
              go_wp2
              rename_i nq
              go_loopw [8] (fun k wr' => k = .int .i64 0 ∧ wr' = wr.drewN nq) (fun k _ => 0)
              case atStart => exact ⟨rfl, rfl⟩
              case round =>
                obtain ⟨rfl, rfl⟩ := hrel
                go_wp2
                go_roundw
                case rel => exact ⟨q + 1, by omega, by go_num, ⟨hw.os, hw.tape, hw.output, hw.size, hw.same, hw.row⟩⟩
                case measure => simp [intOf]; omega
        · have hqe : q = i := by omega
          subst hqe
          go_wp2
          go_ret
          exact ⟨rfl, hw⟩
set_option maxHeartbeats 4000000 in
set_option maxRecDepth 100000 in
theorem owned_nil (A : Option Addr) (W0 : World) : Calls Tryd.prog 23 #[.slice A 0 0] W0 fun e w' => e = .returned (.bool true) ∧ w'.heap = W0.heap ∧ w'.os = W0.os ∧ w'.tape = W0.tape ∧ w'.output = W0.output := by
  go_enter Tryd.func23, Tryd.ntmps23
  go_wp2
  go_loopw [3] (fun k wr => k = .int .i64 0 ∧ wr = W0) (fun k _ => 0)
  case atStart => exact ⟨rfl, rfl⟩
  case round =>
    obtain ⟨rfl, rfl⟩ := hrel
    go_wp2
    go_loopw [6] (fun k wx => k = .int .i64 0 ∧ wx = wr) (fun k _ => 0)
    case atStart => exact ⟨rfl, rfl⟩
    case round =>
      obtain ⟨rfl, rfl⟩ := hrel
      go_wp2
      go_ret
      exact ⟨rfl, rfl, rfl, rfl, rfl⟩
end Go.Proofs.YtgcjhapomljekaaDoor

open Go Go.Ev

namespace Go.Proofs.YtgcjhapomljekaaDoor
open Go.RowKit Go.Shelf

set_option maxHeartbeats 1000000 in
set_option maxRecDepth 100000 in
theorem index_walk (A : Option Addr) (n c : Nat) (xs : List Int) (cv : Int) (w : World) (hx : xs.length = n) (h0 : A = none → n = 0) (hc : ∀ a, A = some a → ∀ i, i < n → w.cell? (a.add i) = some (.int .u8 (xs.getD i 0))) :
    Calls Tryd.prog 54 #[.slice A n c, .int .u8 cv] w fun e w' => e = .returned (.int .i64 (Lib.indexByte (Lib.bytesOf xs) cv.toNat.toUInt8)) ∧ w' = w := by
  cases A with
  | none =>
    have := h0 rfl
    subst this
    have hx0 : xs = [] := List.eq_nil_of_length_eq_zero hx
    subst hx0
    go_enter Tryd.func54, Tryd.ntmps54
    go_wp2
    rw [run_callFunc_extern Tryd.func68 (by kernel_rfl) (by kernel_rfl) (by kernel_rfl) (e := Extern.BytealgIndexByte.indexByte) (by kernel_rfl), Lib.run_indexByteNil w _ c cv]
    simp only [Result.andThen]
    rw [Oper.upon_value]
    go_wp2
    go_ret
    exact ⟨rfl, rfl⟩
  | some a =>
    have hc := hc a rfl
    go_enter Tryd.func54, Tryd.ntmps54
    go_wp2
    rw [run_callFunc_extern Tryd.func68 (by kernel_rfl) (by kernel_rfl) (by kernel_rfl) (e := Extern.BytealgIndexByte.indexByte) (by kernel_rfl), Lib.run_indexByteAt w a n c xs hx hc cv]
    simp only [Result.andThen]
    rw [Oper.upon_value]
    go_wp2
    go_ret
    exact ⟨rfl, rfl⟩
set_option maxHeartbeats 1000000 in
set_option maxRecDepth 100000 in
theorem count_walk (A : Option Addr) (n c : Nat) (xs : List Int) (a2 : Addr) (d : Nat) (cv : Int) (w : World) (hx : xs.length = n) (h0 : A = none → n = 0) (hc : ∀ a, A = some a → ∀ i, i < n → w.cell? (a.add i) = some (.int .u8 (xs.getD i 0)))
    (hc2 : w.cell? a2 = some (.int .u8 cv)) :
    Calls Tryd.prog 79 #[.slice A n c, .slice (some a2) 1 d] w fun e w' => e = .returned (.int .i64 ((Lib.countByte (Lib.bytesOf xs) cv.toNat.toUInt8 : Nat) : Int)) ∧ w' = w := by
  have hadd : a2.add 0 = a2 := by simp [Addr.add]
  cases A with
  | none =>
    have := h0 rfl
    subst this
    have hx0 : xs = [] := List.eq_nil_of_length_eq_zero hx
    subst hx0
    go_enter Tryd.func79, Tryd.ntmps79
    go_wp2
    rw [run_callFunc_extern Tryd.func94 (by kernel_rfl) (by kernel_rfl) (by kernel_rfl) (e := Extern.BytealgCount.count) (by kernel_rfl), Lib.run_countNil w _ c cv]
    simp only [Result.andThen]
    rw [Oper.upon_value]
    go_wp2
    go_ret
    exact ⟨rfl, rfl⟩
  | some a =>
    have hc := hc a rfl
    go_enter Tryd.func79, Tryd.ntmps79
    go_wp2
    rw [run_callFunc_extern Tryd.func94 (by kernel_rfl) (by kernel_rfl) (by kernel_rfl) (e := Extern.BytealgCount.count) (by kernel_rfl), Lib.run_countAt w a n c xs hx hc cv]
    simp only [Result.andThen]
    rw [Oper.upon_value]
    go_wp2
    go_ret
    exact ⟨rfl, rfl⟩
end Go.Proofs.YtgcjhapomljekaaDoor

namespace Go.Proofs
open Go.Shelf Go.RowKit Go.Lib

shelf_lay Lays.n154 Nm 154 at Tryd as Tryd.lays154
theorem Tryd.extra154 : Builder.Extra Tryd.prog Tryd.lays154_ren where
  sizeBuilder := by kernel_rfl
  liesBuilder := by kernel_rfl
  t5 := Tryd.lays154.t5
  a5 := Tryd.lays154.a5
  z5 := Tryd.lays154.z5
  v5 := Tryd.lays154.v5
  infoByte := by kernel_rfl
  cellsByte := by kernel_rfl
  sizeByte := by kernel_rfl
  neB5 := by decide
set_option maxHeartbeats 1000000 in
set_option maxRecDepth 100000 in
theorem Tryd.count_its (w : World) :
    Calls Tryd.prog 59 #[.string ⟨#[105, 116, 39, 115]⟩, .string ⟨#[39]⟩] w fun e w' => e = .returned (.int .i64 1) ∧ w' = w :=
  (Any.strings_Count_one { Tryd.lays154 with } ⟨#[105, 116, 39, 115]⟩ 39 w).mono fun e w' ⟨h1, h2⟩ => ⟨h1, h2⟩
set_option maxHeartbeats 1000000 in
set_option maxRecDepth 100000 in
theorem Tryd.index_its (w : World) :
    Calls Tryd.prog 61 #[.string ⟨#[105, 116, 39, 115]⟩, .string ⟨#[39]⟩] w fun e w' => e = .returned (.int .i64 2) ∧ w' = w := by
  go_enter Tryd.func61, Tryd.ntmps61
  go_wp2_with (go_at_call 77; refine (Any.stringslite_Index_one { Tryd.lays154 with } ⟨#[105, 116, 39, 115]⟩ 39 _).mono ?_; rintro e w' ⟨rfl, rfl⟩)
  go_ret
  exact ⟨rfl, rfl⟩
theorem Tryd.hid {p : Prop} (h : p) : Hid p := h
set_option maxHeartbeats 4000000 in
set_option maxRecDepth 1000000 in
theorem Tryd.replace_its (w : World) :
    Calls Tryd.prog 49 #[.string ⟨#[105, 116, 39, 115]⟩, .string ⟨#[39]⟩, .string ⟨#[39, 39]⟩, .int .i64 (-1)] w fun e w' => e = .returned (.string ⟨#[105, 116, 39, 39, 115]⟩) ∧ Below w.heap.size w w' := by
  have X := Tryd.extra154
  go_enter Tryd.func49, Tryd.ntmps49
  go_wp2_with (first | (go_at_call 59; refine (Tryd.count_its _).mono ?_; rintro e w' ⟨rfl, hw⟩; rw [hw]))
  refine (Any.Builder_Grow_fresh { Tryd.lays154 with } X w.heap.size w.heap.size 5 _ (Nat.le_refl _) (heap_alloc_new w _) (by simp) (by omega)).mono ?_
  rintro e w1 ⟨rfl, hb0, hb1⟩
  have H1 := Tryd.hid (Or.inr hb0 : Lib.IsBuilder 72 5 w.heap.size w.heap.size (Lib.byteCells []) w1)
  have Hb1 := Tryd.hid (((Below.refl w.heap.size w).alloc (Nat.le_refl _) _).trans hb1)
  clear hb0 hb1
  go_wp2_with fail
  go_loopg [11, 53] 1 (fun g s11 s53 wx => ∃ (i start : Nat) (acc : List UInt8), s53 = .int .i64 i ∧ s11 = .int .i64 start ∧ i + g = 1 ∧ start = 3 * i ∧ acc = (if i = 0 then [] else [105, 116, 39, 39]) ∧
      Hid (Lib.IsBuilder 72 5 w.heap.size w.heap.size (Lib.byteCells acc) wx) ∧ Hid (Below w.heap.size w wx))
  case atStart => exact ⟨0, 0, [], rfl, rfl, by omega, rfl, rfl, H1, Hb1⟩
  case round =>
    obtain ⟨i, start, acc, rfl, rfl, hig, rfl, rfl, HB, HW⟩ := hrel
    have hBw : w.heap.size ≤ wr.heap.size := HW.out.size
    cases gk with
    | zero =>
      obtain rfl : i = 1 := by omega
      go_wp2_with fail
      refine (Any.Builder_WriteString { Tryd.lays154 with } X w.heap.size w.heap.size (Lib.byteCells [105, 116, 39, 39]) ⟨#[115]⟩ wr HB.out (by decide) hBw).mono ?_
      rintro e w3 ⟨rfl, h3, hb3⟩
      have hfin : Lib.byteCells [105, 116, 39, 39] ++ Lib.strCells ⟨#[115]⟩ = Lib.byteCells [105, 116, 39, 39, 115] := by rw [Lib.strCells_eq, ← Lib.byteCells_append]; rfl
      rw [hfin] at h3
      have H3 := Tryd.hid (Or.inr h3 : Lib.IsBuilder 72 5 w.heap.size w.heap.size _ w3)
      have Hb3 := Tryd.hid (HW.out.trans hb3)
      have hBw3 : w.heap.size ≤ w3.heap.size := Hb3.out.size
      clear h3 hb3 hfin
      go_wp2_with fail
      refine (Any.Builder_String_any { Tryd.lays154 with } X w.heap.size w.heap.size [105, 116, 39, 39, 115] w3 H3.out hBw3).mono ?_
      rintro e w5 ⟨rfl, hb5⟩
      have Hb5 := Tryd.hid (Hb3.out.trans hb5)
      clear hb5
      go_wp2
      go_ret
      exact ⟨rfl, Hb5.out⟩
    | succ g =>
      obtain rfl : i = 0 := by omega
      obtain rfl : g = 0 := by omega
      have hn : Lib.byteCells [] ++ Lib.strCells ⟨#[105, 116]⟩ ++ Lib.strCells ⟨#[39, 39]⟩ = Lib.byteCells [105, 116, 39, 39] := by
        rw [Lib.strCells_eq, Lib.strCells_eq, ← Lib.byteCells_append, ← Lib.byteCells_append]; rfl
      have Hn := Tryd.hid hn
      clear hn
      go_wp2_with (first | (go_at_call 61; refine (Tryd.index_its _).mono ?_; rintro e w' ⟨rfl, hw⟩; rw [hw]))
      refine (Any.Builder_WriteString { Tryd.lays154 with } X w.heap.size w.heap.size (Lib.byteCells []) ⟨#[105, 116]⟩ wr HB.out (by decide) hBw).mono ?_
      rintro e w3 ⟨rfl, h3, hb3⟩
      have hBw3 : w.heap.size ≤ w3.heap.size := Nat.le_trans hBw hb3.size
      have H3 := Tryd.hid h3
      have Hb3 := Tryd.hid hb3
      clear h3 hb3
      go_wp2_with fail
      refine (Any.Builder_WriteString { Tryd.lays154 with } X w.heap.size w.heap.size (Lib.byteCells [] ++ Lib.strCells ⟨#[105, 116]⟩) ⟨#[39, 39]⟩ w3 (Or.inr H3.out) (by decide) hBw3).mono ?_
      rintro e w4 ⟨rfl, h4, hb4⟩
      rw [Hn.out] at h4
      have H4 := Tryd.hid (Or.inr h4 : Lib.IsBuilder 72 5 w.heap.size w.heap.size _ w4)
      have Hb4 := Tryd.hid ((HW.out.trans Hb3.out).trans hb4)
      clear h4 hb4
      go_wp2
      go_roundg 0
      case measure => omega
      case rel => exact ⟨1, 3, _, rfl, rfl, by omega, by omega, rfl, H4, Hb4⟩
set_option maxHeartbeats 1000000 in
set_option maxRecDepth 100000 in
theorem Tryd.replaceAll_its (w : World) :
    Calls Tryd.prog 36 #[.string ⟨#[105, 116, 39, 115]⟩, .string ⟨#[39]⟩, .string ⟨#[39, 39]⟩] w fun e w' => e = .returned (.string ⟨#[105, 116, 39, 39, 115]⟩) ∧ Below w.heap.size w w' := by
  go_enter Tryd.func36, Tryd.ntmps36
  go_wp2_with (first | (go_at_call 49; refine (Tryd.replace_its _).mono ?_; rintro e w' ⟨rfl, hw⟩))
  go_ret
  exact ⟨rfl, hw⟩
end Go.Proofs

open Go Go.Ev

namespace Go.Proofs.YtgcjhapomljekaaDoor
open Go.RowKit Go.Shelf

theorem conv22 (A : Option Addr) (n c : Nat) (w : World) (s : ByteArray) (h : (Conv.bytesToString (.slice A n c)).run Tryd.prog w = .ok (.string s) w) : (convert 30 9 (.slice A n c)).run Tryd.prog w = .ok (.string s) w := by
  rw [run_convert_bytes_string w 30 9 5 A n c t22s t5s t9s]
  exact h
set_option maxHeartbeats 1000000 in
set_option maxRecDepth 100000 in
theorem bytealg_compare (a b : ByteArray) (w : World) :
    Calls Tryd.prog 47 #[.string a, .string b] w fun e w' => e = .returned (.int .i64 (Lib.compareBytes a.data.toList b.data.toList)) ∧ w' = w := by
  go_enter Tryd.func47, Tryd.ntmps47
  go_wp2
  rw [run_callFunc_extern Tryd.func57 (by kernel_rfl) (by kernel_rfl) (by kernel_rfl) (e := Extern.BytealgCompare.compare) (by kernel_rfl), Lib.run_compareString]
  simp only [Result.andThen]
  rw [Oper.upon_value]
  go_wp2
  go_ret
  exact ⟨rfl, rfl⟩
set_option maxHeartbeats 1000000 in
theorem strings_compare (a b : ByteArray) (w : World) :
    Calls Tryd.prog 34 #[.string a, .string b] w fun e w' => e = .returned (.int .i64 (Lib.compareBytes a.data.toList b.data.toList)) ∧ w' = w := by
  go_enter Tryd.func34, Tryd.ntmps34
  go_wp2_with (go_at_call 47; refine (bytealg_compare _ _ _).mono ?_; rintro e w' ⟨rfl, rfl⟩)
  go_ret
  exact ⟨rfl, rfl⟩
theorem prims : ∀ (g : FuncId) p os rr, C.prim g = some p → p os = some rr → CallSpec C.P g os rr.1 rr.2 := by
  intro g p os rr h1 h2
  have h1 : prim g = some p := h1
  unfold prim at h1
  split at h1
  · cases h1
    exact primLent_spec lent_none lent_some h2
  · cases h1
    exact primKept_spec (fun A0 n c A1 m c1 s0 s1 w r0 r1 hs => kept_no _ _ s0 s1 w (conv22 _ _ _ _ _ r0) (conv22 _ _ _ _ _ r1) hs) (fun b n c A1 m c1 s0 s1 z w r0 r1 hs hm hb hz => kept_yes b n c A1 m c1 s0 s1 z w (conv22 _ _ _ _ _ r0) (conv22 _ _ _ _ _ r1) hs hm hb hz) h2
  · cases h1
    exact primOwned_spec owned_nil (fun w b N c0 A n cp g h hN => owned_walk h hN) h2
  · cases h1
    exact primCompare_spec strings_compare h2
  · cases h1
    exact primQuote_spec Tryd.replaceAll_its h2
  · cases h1
    exact primIndexByte_spec index_walk h2
  · cases h1
    exact primCountOne_spec count_walk h2
  · cases h1
end Go.Proofs.YtgcjhapomljekaaDoor

namespace Go.Proofs
open Go.Shelf Go.RowKit Go.Lib
open Go.Proofs.YtgcjhapomljekaaDoor (escW index_none index_some escW_none escW_append escW_len)

theorem Tryd.esc_hit (l : List UInt8) (k : Nat) (h3 : (l.take k).count 39 = 0) (h4 : l = l.take k ++ 39 :: l.drop (k + 1)) : escW 39 [39, 39] l = l.take k ++ [39, 39] ++ escW 39 [39, 39] (l.drop (k + 1)) := by
  conv => lhs; rw [h4]
  rw [escW_append, escW_none _ _ _ h3]
  simp [escW]
theorem Tryd.count_hit (l : List UInt8) (k : Nat) (h3 : (l.take k).count 39 = 0) (h4 : l = l.take k ++ 39 :: l.drop (k + 1)) : l.count 39 = (l.drop (k + 1)).count 39 + 1 := by
  conv => lhs; rw [h4]
  rw [List.count_append, h3, List.count_cons]
  simp
set_option maxHeartbeats 1000000 in
set_option maxRecDepth 100000 in
theorem Tryd.count_q (s : ByteArray) (w : World) :
    Calls Tryd.prog 59 #[.string s, .string ⟨#[39]⟩] w fun e w' => e = .returned (.int .i64 (s.data.toList.count 39 : Nat)) ∧ w' = w :=
  (Any.strings_Count_one { Tryd.lays154 with } s 39 w).mono fun _ _ ⟨h1, h2⟩ => ⟨h1, h2⟩
set_option maxHeartbeats 1000000 in
set_option maxRecDepth 100000 in
theorem Tryd.index_q (s : ByteArray) (w : World) :
    Calls Tryd.prog 61 #[.string s, .string ⟨#[39]⟩] w fun e w' => e = .returned (.int .i64 (Lib.indexByte s.data.toList 39)) ∧ w' = w := by
  go_enter Tryd.func61, Tryd.ntmps61
  go_wp2_with (go_at_call 77; refine (Any.stringslite_Index_one { Tryd.lays154 with } s 39 _).mono ?_; rintro e w' ⟨rfl, rfl⟩)
  go_ret
  exact ⟨rfl, rfl⟩
set_option maxHeartbeats 4000000 in
set_option maxRecDepth 1000000 in
theorem Tryd.replace_zero (s : ByteArray) (w : World) (h0 : s.data.toList.count 39 = 0) :
    Calls Tryd.prog 49 #[.string s, .string ⟨#[39]⟩, .string ⟨#[39, 39]⟩, .int .i64 (-1)] w fun e w' => e = .returned (.string s) ∧ w' = w := by
  have hc := Tryd.count_q s w
  rw [h0] at hc
  go_enter Tryd.func49, Tryd.ntmps49
  go_wp2_with (first | (go_at_call 59; refine hc.mono ?_; rintro e w' ⟨rfl, rfl⟩))
  go_ret
  exact ⟨rfl, rfl⟩
set_option maxHeartbeats 8000000 in
set_option maxRecDepth 1000000 in
theorem Tryd.replace_q (s : ByteArray) (w : World) (hs : s.size ≤ 1000000000) (h0 : s.data.toList.count 39 ≠ 0) :
    Calls Tryd.prog 49 #[.string s, .string ⟨#[39]⟩, .string ⟨#[39, 39]⟩, .int .i64 (-1)] w fun e w' => e = .returned (.string ⟨(escW 39 [39, 39] s.data.toList).toArray⟩) ∧ Below w.heap.size w w' := by
  have X := Tryd.extra154
  have hlenL : s.data.toList.length = s.size := (Lib.size_eq s).symm
  have hc := Tryd.count_q s w
  obtain ⟨K, hK⟩ : ∃ K : Nat, s.data.toList.count 39 = K := ⟨_, rfl⟩
  have hKs : K ≤ s.size := by rw [← hK, ← hlenL]; exact List.count_le_length
  rw [hK] at hc h0
  have hcz : ((K : Int) == 0) = false := beq_eq_false_iff_ne.2 (by omega)
  have hga : IntKind.wrap .i64 ((s.size : Int) + IntKind.wrap .i64 ((K : Int) * 1)) = ((s.size + K : Nat) : Int) := by
    simp only [IntKind.wrap_i64]; omega
  go_enter Tryd.func49, Tryd.ntmps49
  go_wp2_with (first | (go_at_call 59; refine hc.mono ?_; rintro e w' ⟨rfl, hw⟩; rw [hw]))
  have hcast : ((s.size : Int) + (K : Int)) = ((s.size + K : Nat) : Int) := by omega
  rw [hcast]
  refine (Any.Builder_Grow_fresh { Tryd.lays154 with } X w.heap.size w.heap.size (s.size + K) _ (Nat.le_refl _) (heap_alloc_new w _) (by simp) (by omega)).mono ?_
  rintro e w1 ⟨rfl, hb0, hb1⟩
  dsimp only
  have H1 := Tryd.hid (Or.inr hb0 : Lib.IsBuilder 72 5 w.heap.size w.heap.size (Lib.byteCells []) w1)
  have Hb1 := Tryd.hid (((Below.refl w.heap.size w).alloc (Nat.le_refl _) _).trans hb1)
  clear hb0 hb1
  go_wp2_with fail
  go_loopg [11, 53] K (fun g s11 s53 wx => ∃ (i start : Nat) (acc : List UInt8), s53 = .int .i64 i ∧ s11 = .int .i64 start ∧ i + g = K ∧ start ≤ s.size ∧
      Hid (Lib.IsBuilder 72 5 w.heap.size w.heap.size (Lib.byteCells acc) wx) ∧ Hid (Below w.heap.size w wx) ∧ Hid (acc ++ escW 39 [39, 39] (s.data.toList.drop start) = escW 39 [39, 39] s.data.toList) ∧
      (s.data.toList.drop start).count 39 = g ∧ acc.length + (s.size - start) + g ≤ s.size + K)
  case atStart => exact ⟨0, 0, [], rfl, rfl, by omega, Nat.zero_le _, H1, Hb1, Tryd.hid (by simp), by rw [List.drop_zero]; exact hK, by simp⟩
  case round =>
    obtain ⟨i, start, acc, rfl, rfl, hig, hst, HB, HW, HR, hgc, hbd⟩ := hrel
    have hBw : w.heap.size ≤ wr.heap.size := HW.out.size
    have c1 : (0 : Int) ≤ (start : Int) := by omega
    have c2 : (start : Int) ≤ (s.size : Int) := by omega
    cases gk with
    | zero =>
      have hiK : ¬ ((i : Int) < (K : Int)) := by omega
      go_wp2_with fail
      refine (Any.Builder_WriteString { Tryd.lays154 with } X w.heap.size w.heap.size _ _ _ HB.out (by rw [Lib.byteCells_length, ByteArray.size_extract]; omega) hBw).mono ?_
      rintro e w3 ⟨rfl, h3, hb3⟩
      dsimp only
      rw [Lib.strCells_eq, Lib.extract_to_end, ← Lib.byteCells_append] at h3
      have hfin : acc ++ s.data.toList.drop start = escW 39 [39, 39] s.data.toList := by
        have := HR.out
        rw [escW_none _ _ _ hgc] at this
        exact this
      rw [hfin] at h3
      have H3 := Tryd.hid (Or.inr h3 : Lib.IsBuilder 72 5 w.heap.size w.heap.size _ w3)
      have Hb3 := Tryd.hid (HW.out.trans hb3)
      have hBw3 : w.heap.size ≤ w3.heap.size := Hb3.out.size
      clear h3 hb3 hfin
      go_wp2_with fail
      refine (Any.Builder_String_any { Tryd.lays154 with } X w.heap.size w.heap.size _ _ H3.out hBw3).mono ?_
      rintro e w5 ⟨rfl, hb5⟩
      dsimp only
      have Hb5 := Tryd.hid (Hb3.out.trans hb5)
      clear hb5
      go_wp2
      go_ret
      exact ⟨rfl, Hb5.out⟩
    | succ g =>
      have hiK : (i : Int) < (K : Int) := by omega
      obtain ⟨j, hj, hjl, hj3, hj4⟩ := index_some (s.data.toList.drop start) 39 (by omega)
      rw [List.length_drop, hlenL] at hjl
      have c3 : (start : Int) ≤ (start : Int) + (j : Int) := by omega
      have c4 : (start : Int) + (j : Int) ≤ (s.size : Int) := by omega
      have hdd : (s.data.toList.drop start).drop (j + 1) = s.data.toList.drop (start + j + 1) := by rw [List.drop_drop, Nat.add_assoc]
      have he := Tryd.esc_hit _ j hj3 hj4
      have hct := Tryd.count_hit _ j hj3 hj4
      rw [hdd] at he hct
      have hnext : Lib.byteCells acc ++ Lib.strCells (s.extract start (start + j)) ++ Lib.strCells ⟨#[39, 39]⟩ = Lib.byteCells (acc ++ (s.data.toList.drop start).take j ++ [39, 39]) := by
        rw [Lib.strCells_eq, Lib.strCells_eq, Lib.extract_data, Nat.add_sub_cancel_left, ← Lib.byteCells_append, ← Lib.byteCells_append]
      have hrep : (acc ++ (s.data.toList.drop start).take j ++ [39, 39]) ++ escW 39 [39, 39] (s.data.toList.drop (start + j + 1)) = escW 39 [39, 39] s.data.toList := by
        rw [← HR.out, he]
        simp only [List.append_assoc]
      have htl : ((s.data.toList.drop start).take j).length = j := by rw [List.length_take, List.length_drop, hlenL]; omega
      have Hn := Tryd.hid hnext
      have Hrep := Tryd.hid hrep
      clear hnext hrep HR he
      go_wp2_with (first | (go_at_call 61; refine (Tryd.index_q _ _).mono ?_; rintro e w' ⟨rfl, hw⟩; dsimp only; rw [hw, Lib.extract_to_end, hj]))
      refine (Any.Builder_WriteString { Tryd.lays154 with } X w.heap.size w.heap.size _ (s.extract start (start + j)) _ HB.out (by rw [Lib.byteCells_length, ByteArray.size_extract]; omega) hBw).mono ?_
      rintro e w3 ⟨rfl, h3, hb3⟩
      dsimp only
      have hBw3 : w.heap.size ≤ w3.heap.size := Nat.le_trans hBw hb3.size
      have H3 := Tryd.hid h3
      have Hb3 := Tryd.hid hb3
      clear h3 hb3
      go_wp2_with fail
      refine (Any.Builder_WriteString { Tryd.lays154 with } X w.heap.size w.heap.size _ ⟨#[39, 39]⟩ _ (Or.inr H3.out) (by rw [List.length_append, Lib.byteCells_length, Lib.strCells_length, ByteArray.size_extract]; show _ + _ + 2 ≤ _; omega) hBw3).mono ?_
      rintro e w4 ⟨rfl, h4, hb4⟩
      dsimp only
      rw [Hn.out] at h4
      have H4 := Tryd.hid (Or.inr h4 : Lib.IsBuilder 72 5 w.heap.size w.heap.size _ w4)
      have Hb4 := Tryd.hid ((HW.out.trans Hb3.out).trans hb4)
      clear h4 hb4
      go_wp2
      go_roundg g
      case measure => omega
      case rel => exact ⟨i + 1, start + j + 1, _, by first | rfl | (simp; unfold wrap64; omega), by first | rfl | simp | (simp; unfold wrap64; omega), by omega, by omega, H4, Hb4, Hrep, by omega, by simp only [List.length_append, htl]; show _ + 2 + _ + _ ≤ _; omega⟩
set_option maxHeartbeats 1000000 in
set_option maxRecDepth 100000 in
/-- strings.ReplaceAll: each quote doubled. -/
theorem Tryd.replaceAll_q (s : ByteArray) (w : World) (hs : s.size ≤ 1000000000) :
    Calls Tryd.prog 36 #[.string s, .string ⟨#[39]⟩, .string ⟨#[39, 39]⟩] w fun e w' => e = .returned (.string ⟨(escW 39 [39, 39] s.data.toList).toArray⟩) ∧ Below w.heap.size w w' := by
  have h49 : Calls Tryd.prog 49 #[.string s, .string ⟨#[39]⟩, .string ⟨#[39, 39]⟩, .int .i64 (-1)] w fun e w' => e = .returned (.string ⟨(escW 39 [39, 39] s.data.toList).toArray⟩) ∧ Below w.heap.size w w' := by
    by_cases h0 : s.data.toList.count 39 = 0
    · refine (Tryd.replace_zero s w h0).mono ?_
      rintro e w' ⟨rfl, rfl⟩
      rw [escW_none _ _ _ h0]
      exact ⟨rfl, Below.refl _ _⟩
    · exact Tryd.replace_q s w hs h0
  go_enter Tryd.func36, Tryd.ntmps36
  go_wp2_with (first | (go_at_call 49; refine h49.mono ?_; rintro e w' ⟨rfl, hw⟩))
  go_ret
  exact ⟨rfl, hw⟩
end Go.Proofs

