/-
  FrameSame: two memories have the same words just if no word of one is another one.
-/
import Derived.Test.YtedjanjjfhpcnaaFrameGreat
import Derived.StillTailTactics
namespace Go.Proofs.Ytedjanjjfhpcnaa
open Go.RowKit
set_option linter.unusedVariables false
set_option linter.unusedSimpArgs false

/-- The first k frames are another memory's. -/
def copyW (W : List Int) (k : Nat) : List Int := W.take (k * 8) ++ List.replicate ((16 - k) * 8) 0
theorem copyW_zero (W : List Int) : copyW W 0 = List.replicate (16 * 8) 0 := by simp [copyW]
theorem copyW_full {W : List Int} (hW : W.length = 16 * 8) : copyW W 16 = W := by
  simp only [copyW, Nat.sub_self, Nat.zero_mul, List.replicate_zero, List.append_nil]
  exact List.take_of_length_le (by omega)
theorem fill_copy {W : List Int} (hW : W.length = 16 * 8) {k : Nat} (hk : k < 16) : fillW (copyW W k) 16 k (frameW W 16 k) = copyW W (k + 1) := by
  have hf : 0 ≤ (k : Int) ∧ (k : Int) < (16 : Nat) := ⟨by omega, by omega⟩
  have hl := frameW_length hW hf
  unfold fillW
  rw [if_pos ⟨hf.1, hf.2, hl⟩]
  have e : frameW W 16 k = (W.drop (k * 8)).take 8 := by unfold frameW; rw [if_pos hf]; simp
  have h1 : (W.take (k * 8)).length = k * 8 := by simp; omega
  have h2 : (copyW W k).take (k * 8) = W.take (k * 8) := by
    unfold copyW
    rw [List.take_append_of_le_length (by omega), List.take_of_length_le (by omega)]
  have h3 : (copyW W k).drop (k * 8 + 8) = List.replicate ((16 - (k + 1)) * 8) 0 := by
    unfold copyW
    rw [List.drop_append, List.drop_of_length_le (by omega), h1, List.nil_append, List.drop_replicate]
    congr 1
    omega
  simp only [Int.toNat_natCast]
  rw [h2, h3, e]
  unfold copyW
  rw [show (k + 1) * 8 = k * 8 + 8 from by omega, List.take_add]

theorem eq_set {W : List Int} {i : Nat} {x v : Int} (hx : W[i]? = some x) : (W == W.set i v) = (x == v) ∧ (W.set i v == W) = (x == v) := by
  have hi := (List.getElem?_eq_some_iff.1 hx).1
  by_cases h : x = v
  · subst h
    have e : W.set i x = W := by
      obtain ⟨h1, h2⟩ := List.getElem?_eq_some_iff.1 hx
      rw [← h2]
      exact List.set_getElem_self h1
    rw [e]
    simp
  · have hne : W ≠ W.set i v := fun e => by
      have h2 := congrArg (fun l : List Int => l[i]?) e
      simp only [List.getElem?_set_self hi, hx] at h2
      injection h2 with h2
      exact h h2
    have e1 : (x == v) = false := by rw [beq_eq_false_iff_ne]; exact h
    rw [e1, beq_eq_false_iff_ne, beq_eq_false_iff_ne]
    exact ⟨hne, fun e => hne e.symm⟩

set_option maxHeartbeats 4000000 in
set_option maxRecDepth 100000 in
theorem FrameSame_walk (a : Option Addr) (len cap : Nat) (l : List FOp) (f i v : Int) (w : World) (hA : ArgRow w 5 a len (l.flatMap opC)) (hl : ∀ x ∈ l, FOk w x) (hf : (Lit.int .u8 f).wf = true) (hi : (Lit.int .u8 i).wf = true) (hv : (Lit.int .u64 v).wf = true) :
    Calls Try.prog 5 #[.slice a len cap, .int .u8 f, .int .u8 i, .int .u64 v] w fun e w' => e = .returned (.bool true) ∧ Below w.heap.size w w' := by
  obtain rfl := ops_len hA
  obtain ⟨t0, t1⟩ := bounds_u8 hf
  obtain ⟨t2, t3⟩ := bounds_u8 hi
  have hs := hA.small
  have hH0 : Has w w.heap.size [] := Has.nil (Nat.le_refl _)
  have HA := hid hA
  have HL := hid hl
  clear hA hl hf hi hv
  go_enter Try.func5, Try.ntmps5
  go_wp2_with fail
  refine (head_true w _ [] hH0).mono ?_
  rintro e w1 ⟨_, rfl, hH1, hB1⟩
  go_wp2_with fail
  refine (MemNew_yes 16 (by decide) (by decide) w1 _ _ hH1).mono ?_
  rintro e w2 ⟨m, rfl, hH2, hB2⟩
  have hB2 := hB1.trans hB2
  clear hH1 hB1 hH0
  go_wp2_with fail
  refine (MemNew_yes 16 (by decide) (by decide) w2 _ _ hH2).mono ?_
  rintro e w3 ⟨o, rfl, hH3, hB3⟩
  have hB3 := hB2.trans hB3
  clear hH2 hB2
  go_wp2_with fail
  refine (MemNew_yes 15 (by decide) (by decide) w3 _ _ hH3).mono ?_
  rintro e w4 ⟨n, rfl, hH4, hB4⟩
  have hB4 := hB3.trans hB4
  clear hH3 hB3
  go_wp2_with fail
  refine (Great_calls a cap l w4 w HA.out hB4 HL.out).mono ?_
  rintro e w5 ⟨⟨g, rfl⟩, rfl⟩
  cases g with
  | true =>
    go_wp2_with fail
    go_ret
    exact ⟨rfl, hB4⟩
  | false =>
    have hA0 : 0 ≤ f % 16 := Int.emod_nonneg _ (by decide)
    have hA1 : f % 16 < 16 := Int.emod_lt_of_pos _ (by decide)
    have hB0 : 0 ≤ i % 8 := Int.emod_nonneg _ (by decide)
    have hBB : i % 8 < 8 := Int.emod_lt_of_pos _ (by decide)
    go_wp2_with fail
    obtain ⟨A, hA⟩ := Int.eq_ofNat_of_zero_le hA0
    obtain ⟨Bn, hBn⟩ := Int.eq_ofNat_of_zero_le hB0
    rw [hA] at hA1
    rw [hBn] at hBB
    have hA16 : A < 16 := by omega
    have hB8 : Bn < 8 := by omega
    have HAA := hid hA
    have HBB := hid hBn
    clear hA hBn hA0 hB0 hA1 hBB
    go_loopw [13] (fun i wr => ∃ (j : Nat) (W : List Int), j ≤ l.length ∧ i = .int .i64 j ∧ Has wr w.heap.size [MemA m 16 W, MemA o 16 (List.replicate (16 * 8) 0), MemA n 15 (List.replicate (15 * 8) 0)] ∧ Below w.heap.size w wr) (fun i _ => l.length - (intOf i).toNat)
    case atStart => exact ⟨0, _, by omega, rfl, (hH4.front [_] _).front [_, _] _, hB4⟩
    case round =>
      obtain ⟨j, W, hj, rfl, hHr, hBr⟩ := hrel
      clear hH4 hB4
      by_cases hlt : j < l.length
      · obtain ⟨x, hx⟩ : ∃ x, l[j]? = some x := ⟨l[j], List.getElem?_eq_getElem hlt⟩
        obtain ⟨b, p, rfl, _, _⟩ := HA.out.mem (by omega)
        have k1 := ops_at HA.out hBr rfl hx 1 (u := .int .i64 x.F) rfl
        have k2 := ops_at HA.out hBr rfl hx 2 (u := .int .i64 x.I) rfl
        have k3 := ops_at HA.out hBr rfl hx 3 (u := .int .u64 x.V) rfl
        clear hx
        have hBd : Below w.heap.size w wr.drew := hBr.drew
        have cs := Set_calls m 16 W x.F x.I x.V wr.drew _ _ hHr.drew
        have CS := hid cs
        clear cs
        go_wp2_with fail
        go_still_tail 16, (by kernel_rfl)
        change wpList _ _ _ _ _ (wr.drew)
        go_wp2_with fail
        refine CS.out.mono ?_
        rintro e w5 ⟨rfl, hH5, hB5⟩
        go_wp2_with fail
        go_roundw
        case rel => exact ⟨j + 1, _, by omega, by go_num, hH5, hBd.trans hB5⟩
        case measure => simp [intOf] <;> omega
      · obtain rfl : j = l.length := by omega
        have hWl := (MemA.fits hHr).2.2
        go_wp2_with fail
        obtain ⟨wo, rfl⟩ : ∃ wo : World, wo = wr := ⟨_, rfl⟩
        rw [← copyW_zero W] at hHr
        go_loopw [14] (fun i wr => ∃ k : Nat, k ≤ 16 ∧ i = .int .i64 k ∧ Has wr w.heap.size [MemA m 16 W, MemA o 16 (copyW W k), MemA n 15 (List.replicate (15 * 8) 0)] ∧ Below w.heap.size w wr) (fun i _ => 16 - (intOf i).toNat)
        case atStart => exact ⟨0, by omega, rfl, hHr, hBr⟩
        case round =>
          clear hHr hBr
          obtain ⟨k, hk, rfl, hHr, hBr⟩ := hrel
          by_cases hlt : k < 16
          · go_wp2_with fail
            refine (Frame_calls m 16 W k wr _ _ hHr).mono ?_
            rintro e w5 ⟨v5, rfl, hH5, hB5⟩
            obtain ⟨ao, cp, rfl, _, _, _⟩ := hH5.row_form [] _
            have hs5 := srcu_row [] _ hH5 rfl
            have cf := Fill_calls o 16 (copyW W k) k ao cp _ w5 hs5 _ _ (hH5.front [_, _] _)
            rw [fill_copy hWl hlt] at cf
            have CF := hid cf
            clear cf hs5
            go_wp2_with fail
            refine CF.out.mono ?_
            rintro e w6 ⟨rfl, hH6, hB6⟩
            go_wp2_with fail
            go_roundw
            case rel => exact ⟨k + 1, by omega, by go_num, ((hH6.front [_, _] _).front [_, _] _).drop, hBr.trans (hB5.trans hB6)⟩
            case measure => simp [intOf] <;> omega
          · obtain rfl : k = 16 := by omega
            rw [copyW_full hWl] at hHr
            obtain ⟨x, hx⟩ : ∃ x, W[A * 8 + Bn]? = some x := ⟨_, List.getElem?_eq_getElem (by omega)⟩
            obtain ⟨q1, q2⟩ := eq_set (v := v) hx
            have hset : setW W 16 A Bn v = W.set (A * 8 + Bn) v := by
              have hw : wok 16 A Bn := ⟨by omega, by omega, by omega, by omega⟩
              simp [setW, hw, wat]
            have hlen : (W == List.replicate (15 * 8) 0) = false := by
              rw [beq_eq_false_iff_ne]
              intro e
              rw [e] at hWl
              simp at hWl
            have Q1 := hid q1
            have Q2 := hid q2
            have HS := hid hset
            have HLN := hid hlen
            have HX := hid hx
            clear q1 q2 hset hlen hx hWl
            have hA := HAA.out
            have hBn := HBB.out
            go_wp2_with fail
            refine (Same_calls m o 16 16 W W wr _ _ hHr).mono ?_
            rintro e w5 ⟨rfl, hH5, hB5⟩
            rw [show (W == W) = true from by simp]
            have hB5 := hBr.trans hB5
            clear hHr hBr
            have cg := Get_calls m 16 W A Bn w5 _ _ hH5
            rw [getR_at HX.out hA16 hB8] at cg
            have CG := hid cg
            clear cg
            go_wp2_with fail
            refine CG.out.mono ?_
            rintro e w6 ⟨rfl, rfl⟩
            have cs := Set_calls o 16 W A Bn v w5 _ _ (hH5.front [_] _)
            rw [HS.out] at cs
            have CS := hid cs
            clear cs
            go_wp2_with fail
            refine CS.out.mono ?_
            rintro e w6 ⟨rfl, hH6, hB6⟩
            have hB6 := hB5.trans hB6
            clear hH5 hB5 hA hBn
            go_wp2_with fail
            have c1 := Same_calls m o 16 16 W _ w6 _ _ (hH6.front [_] _)
            rw [Q1.out] at c1
            have C1 := hid c1
            clear c1
            refine C1.out.mono ?_
            rintro e w7 ⟨rfl, hH7, hB7⟩
            have hB7 := hB6.trans hB7
            have c2 := Same_calls o m 16 16 _ W w7 _ _ (hH7.front [_] _)
            rw [Q2.out] at c2
            have C2 := hid c2
            clear c2 hH6 hB6
            obtain ⟨s, hsx⟩ : ∃ s, (x == v) = s := ⟨_, rfl⟩
            rw [hsx] at C2 ⊢
            cases s
            all_goals (
              go_wp2_with fail
              refine C2.out.mono ?_
              rintro e w8 ⟨rfl, hH8, hB8⟩
              have hB8 := hB7.trans hB8
              have c3 := Same_calls m n 16 15 W _ w8 _ _ ((hH8.front [_, _] _).front [_, _] _)
              rw [HLN.out] at c3
              have C3 := hid c3
              clear c3
              go_wp2_with fail
              refine C3.out.mono ?_
              rintro e w9 ⟨rfl, hH9, hB9⟩
              go_wp2_with fail
              go_ret
              exact ⟨rfl, hB8.trans hB9⟩)

end Go.Proofs.Ytedjanjjfhpcnaa
