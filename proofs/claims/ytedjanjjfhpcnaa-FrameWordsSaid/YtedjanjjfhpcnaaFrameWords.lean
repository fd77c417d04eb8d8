/-
  FrameWords: a word is what was set last, or filled; others are as they were.
-/
import Derived.Test.YtedjanjjfhpcnaaFrameGreat
namespace Go.Proofs.Ytedjanjjfhpcnaa
open Go.RowKit
set_option linter.unusedVariables false
set_option linter.unusedSimpArgs false

/-- A word of a memory of 16 frames, and what is wanted of it, behind a call. -/
theorem setW_at {W : List Int} {n : Nat} {f i v : Int} {a b : Nat} (hW : W.length = n * 8) (ha : a < n) (hb : b < 8) (h : wok n f i) (x : Int) (hx : W[a * 8 + b]? = some x) :
    (setW W n f i v)[a * 8 + b]? = some (if f = a ∧ i = b then v else x) := by
  obtain ⟨k, j, rfl, rfl, hk, hj⟩ := wok_nat h
  unfold setW
  rw [if_pos h]
  simp only [wat, Int.toNat_natCast]
  by_cases e : (k : Int) = a ∧ (j : Int) = b
  · obtain ⟨e1, e2⟩ := e
    have e1 : k = a := by omega
    have e2 : j = b := by omega
    subst e1 e2
    rw [if_pos ⟨rfl, rfl⟩, List.getElem?_set_self (by omega)]
  · rw [if_neg e, List.getElem?_set_ne (by omega)]
    exact hx

theorem fillW_at {W : List Int} {n : Nat} {f : Int} {l : List Int} {a b : Nat} (hW : W.length = n * 8) (ha : a < n) (hb : b < 8) (h : 0 ≤ f ∧ f < n ∧ l.length = 8) (x y : Int) (hx : W[a * 8 + b]? = some x) (hy : l[b]? = some y) :
    (fillW W n f l)[a * 8 + b]? = some (if f = a then y else x) := by
  obtain ⟨h1, h2, h3⟩ := h
  obtain ⟨k, rfl⟩ := Int.eq_ofNat_of_zero_le h1
  unfold fillW
  rw [if_pos ⟨h1, h2, h3⟩]
  simp only [Int.toNat_natCast]
  by_cases e : (k : Int) = a
  · have e1 : k = a := by omega
    subst e1
    rw [if_pos rfl, List.append_assoc, List.getElem?_append_right (by simp; omega), List.getElem?_append_left (by simp; omega)]
    rw [show k * 8 + b - (W.take (k * 8)).length = b from by simp; omega]
    exact hy
  · rw [if_neg e]
    by_cases hlt : a < k
    · rw [List.append_assoc, List.getElem?_append_left (by simp; omega), List.getElem?_take_of_lt (by omega)]
      exact hx
    · have hgt : k < a := by omega
      rw [List.getElem?_append_right (by simp; omega), List.getElem?_drop]
      rw [show k * 8 + 8 + (a * 8 + b - (W.take (k * 8) ++ l).length) = a * 8 + b from by simp; omega]
      exact hx

set_option maxHeartbeats 4000000 in
set_option maxRecDepth 100000 in
theorem FrameWords_walk (a : Option Addr) (len cap : Nat) (l : List FOp) (f i : Int) (w : World) (hA : ArgRow w 5 a len (l.flatMap opC)) (hl : ∀ x ∈ l, FOk w x) (hf : (Lit.int .u8 f).wf = true) (hi : (Lit.int .u8 i).wf = true) :
    Calls Try.prog 4 #[.slice a len cap, .int .u8 f, .int .u8 i] w fun e w' => e = .returned (.bool true) ∧ Below w.heap.size w w' := by
  obtain rfl := ops_len hA
  obtain ⟨t0, t1⟩ := bounds_u8 hf
  obtain ⟨t2, t3⟩ := bounds_u8 hi
  have hs := hA.small
  have hH0 : Has w w.heap.size [] := Has.nil (Nat.le_refl _)
  have HA := hid hA
  have HL := hid hl
  clear hA hl hf hi
  go_enter Try.func4, Try.ntmps4
  go_wp2_with fail
  refine (head_true w _ [] hH0).mono ?_
  rintro e w1 ⟨_, rfl, hH1, hB1⟩
  go_wp2_with fail
  refine (MemNew_yes 16 (by decide) (by decide) w1 _ _ hH1).mono ?_
  rintro e w2 ⟨m, rfl, hH2, hB2⟩
  have hB2 := hB1.trans hB2
  clear hH1 hB1 hH0
  go_wp2_with fail
  refine (Great_calls a cap l w2 w HA.out hB2 HL.out).mono ?_
  rintro e w3 ⟨⟨g, rfl⟩, rfl⟩
  cases g with
  | true =>
    go_wp2_with fail
    go_ret
    exact ⟨rfl, hB2⟩
  | false =>
    have hA0 : 0 ≤ f % 16 := Int.emod_nonneg _ (by decide)
    have hA1 : f % 16 < 16 := Int.emod_lt_of_pos _ (by decide)
    have hB0 : 0 ≤ i % 8 := Int.emod_nonneg _ (by decide)
    have hBB : i % 8 < 8 := Int.emod_lt_of_pos _ (by decide)
    go_wp2_with fail
    obtain ⟨A, hA⟩ := Int.eq_ofNat_of_zero_le hA0
    obtain ⟨Bn, hBn⟩ := Int.eq_ofNat_of_zero_le hB0
    rw [hA] at hA1 ⊢
    rw [hBn] at hBB ⊢
    have hA16 : A < 16 := by omega
    have hB8 : Bn < 8 := by omega
    clear hA hBn hA0 hB0 hA1 hBB t0 t1 t2 t3
    go_loopw [11, 12, 13, 14, 15] (fun want i _ _ _ wr => ∃ (j : Nat) (W : List Int) (y : Int), j ≤ l.length ∧ i = .int .i64 j ∧ want = .int .u64 y ∧ W[A * 8 + Bn]? = some y ∧ Has wr w.heap.size [MemA m 16 W] ∧ Below w.heap.size w wr) (fun _ i _ _ _ _ => l.length - (intOf i).toNat)
    case atStart => exact ⟨0, _, 0, by omega, rfl, rfl, by rw [List.getElem?_replicate, if_pos (by omega)], hH2, hB2⟩
    case round =>
      obtain ⟨j, W, y, hj, rfl, rfl, hy, hHr, hBr⟩ := hrel
      clear hH2 hB2
      by_cases hlt : j < l.length
      · obtain ⟨x, hx⟩ : ∃ x, l[j]? = some x := ⟨l[j], List.getElem?_eq_getElem hlt⟩
        have hok := HL.out x (List.mem_of_getElem? hx)
        obtain ⟨b, o, rfl, _, _⟩ := HA.out.mem (by omega)
        have P1 := hid (ops_adds HA.out hBr rfl hx)
        have hWl := (MemA.fits hHr).2.2
        have HOK := hid hok
        have HY0 := hid hy
        have HWL := hid hWl
        clear hx hok hy hWl
        have tok1 : True := trivial
        have tok2 : True := trivial
        by_cases h3 : x.What = 3
        · have e1 : (x.What == 3) = true := by rw [beq_iff_eq]; exact h3
          clear h3
          go_wp2_with (first
            | (have _t := tok1; refine wpList_load_at 32 (.tmp 43) rfl rfl ⟨b, o + j * 5, none⟩ rfl _ (opC x) P1.out Try.underlying32 rfl op_size ?_; clear _t tok1)
            | (have _t := tok2; refine wpList_store_all [] _ (hHr.newblk wr.heap.size 32 opZ rfl) 32 (.tmp 13) (.tmp 44) rfl rfl rfl _ rfl op_size' rfl (op_one x) ?_; clear _t tok2; intro w4 hH4 hB4 hz4; clear hz4; have k0 := hH4.cell [] _ 0 (v := .int .i64 x.What) rfl; have k1 := hH4.cell [] _ 1 (v := .int .i64 x.F) rfl; have k4 := hH4.cell [] _ 4 (v := .slice x.La x.L.length x.Lc) rfl))
          have hB4 := hBr.trans ((below_new (Below.refl _ _) hHr _).trans hB4)
          refine (Fill_calls m 16 W x.F x.La x.Lc x.L w4 (HOK.out.src.later hB4) _ _ (hH4.front [_] _)).mono ?_
          rintro e w5 ⟨rfl, hH5, hB5⟩
          have hB5 := hB4.trans hB5
          have k1 := hH5.cell [_] _ 1 (v := .int .i64 x.F) rfl
          have k4 := hH5.cell [_] _ 4 (v := .slice x.La x.L.length x.Lc) rfl
          clear hHr hBr hH4 hB4 k0
          by_cases hd : 0 ≤ x.F ∧ x.F < (16 : Nat) ∧ x.L.length = 8
          · rw [decide_eq_true hd]
            obtain ⟨z, hz⟩ : ∃ z, x.L[Bn]? = some z := ⟨_, List.getElem?_eq_getElem (by omega)⟩
            have hat := fillW_at HWL.out hA16 hB8 hd y z HY0.out hz
            obtain ⟨bb, ob, hLa, _, _⟩ := (HOK.out.src.later hB5).mem (by omega)
            have cz := (HOK.out.src.later hB5).at hLa hz
            have hL8 := hd.2.2
            rw [hLa, hL8] at k4
            clear hd hz hLa hL8
            by_cases hFa : x.F = A
            · rw [if_pos hFa] at hat
              have HY := hid hat
              have e2 : (x.F == (A : Int)) = true := by rw [beq_iff_eq]; exact hFa
              clear hat hFa
              go_wp2_with fail
              have q1 := Get_calls m 16 (fillW W 16 x.F x.L) A Bn w5 _ _ hH5
              rw [getR_at HY.out hA16 hB8] at q1
              have Q1 := hid q1
              clear q1
              go_wp2_with fail
              refine Q1.out.mono ?_
              rintro e w6 ⟨rfl, rfl⟩
              go_wp2_with fail
              go_roundw
              case rel => exact ⟨j + 1, fillW W 16 x.F x.L, z, by omega, by go_num, rfl, HY.out, (hH5.front [_] _).drop, hB5⟩
              case measure => simp [intOf] <;> omega
            · rw [if_neg hFa] at hat
              have HY := hid hat
              have e2 : (x.F == (A : Int)) = false := by rw [beq_eq_false_iff_ne]; exact hFa
              clear hat hFa
              go_wp2_with fail
              have q1 := Get_calls m 16 (fillW W 16 x.F x.L) A Bn w5 _ _ hH5
              rw [getR_at HY.out hA16 hB8] at q1
              have Q1 := hid q1
              clear q1
              go_wp2_with fail
              refine Q1.out.mono ?_
              rintro e w6 ⟨rfl, rfl⟩
              go_wp2_with fail
              go_roundw
              case rel => exact ⟨j + 1, fillW W 16 x.F x.L, y, by omega, by go_num, rfl, HY.out, (hH5.front [_] _).drop, hB5⟩
              case measure => simp [intOf] <;> omega
          · rw [decide_eq_false hd]
            have hno : fillW W 16 x.F x.L = W := by unfold fillW; rw [if_neg hd]
            rw [hno] at hH5
            have HY := HY0
            clear hd hno
            go_wp2_with fail
            have q1 := Get_calls m 16 (W) A Bn w5 _ _ hH5
            rw [getR_at HY.out hA16 hB8] at q1
            have Q1 := hid q1
            clear q1
            go_wp2_with fail
            refine Q1.out.mono ?_
            rintro e w6 ⟨rfl, rfl⟩
            go_wp2_with fail
            go_roundw
            case rel => exact ⟨j + 1, W, y, by omega, by go_num, rfl, HY.out, (hH5.front [_] _).drop, hB5⟩
            case measure => simp [intOf] <;> omega
        · have e1 : (x.What == 3) = false := by rw [beq_eq_false_iff_ne]; exact h3
          clear h3
          go_wp2_with (first
            | (have _t := tok1; refine wpList_load_at 32 (.tmp 43) rfl rfl ⟨b, o + j * 5, none⟩ rfl _ (opC x) P1.out Try.underlying32 rfl op_size ?_; clear _t tok1)
            | (have _t := tok2; refine wpList_store_all [] _ (hHr.newblk wr.heap.size 32 opZ rfl) 32 (.tmp 13) (.tmp 44) rfl rfl rfl _ rfl op_size' rfl (op_one x) ?_; clear _t tok2; intro w4 hH4 hB4 hz4; clear hz4; have k0 := hH4.cell [] _ 0 (v := .int .i64 x.What) rfl; have k1 := hH4.cell [] _ 1 (v := .int .i64 x.F) rfl; have k2 := hH4.cell [] _ 2 (v := .int .i64 x.I) rfl; have k3 := hH4.cell [] _ 3 (v := .int .u64 x.V) rfl))
          have hB4 := hBr.trans ((below_new (Below.refl _ _) hHr _).trans hB4)
          refine (Set_calls m 16 W x.F x.I x.V w4 _ _ (hH4.front [_] _)).mono ?_
          rintro e w5 ⟨rfl, hH5, hB5⟩
          have hB5 := hB4.trans hB5
          have k1 := hH5.cell [_] _ 1 (v := .int .i64 x.F) rfl
          have k2 := hH5.cell [_] _ 2 (v := .int .i64 x.I) rfl
          have k3 := hH5.cell [_] _ 3 (v := .int .u64 x.V) rfl
          clear hHr hBr hH4 hB4 k0
          by_cases hd : wok 16 x.F x.I
          · rw [decide_eq_true hd]
            have hat := setW_at (v := x.V) HWL.out hA16 hB8 hd y HY0.out
            clear hd
            by_cases hFa : x.F = A
            · have e2 : (x.F == (A : Int)) = true := by rw [beq_iff_eq]; exact hFa
              by_cases hIb : x.I = Bn
              · rw [if_pos ⟨hFa, hIb⟩] at hat
                have e3 : (x.I == (Bn : Int)) = true := by rw [beq_iff_eq]; exact hIb
                have HY := hid hat
                clear hat hFa hIb
                go_wp2_with fail
                have q1 := Get_calls m 16 (setW W 16 x.F x.I x.V) A Bn w5 _ _ hH5
                rw [getR_at HY.out hA16 hB8] at q1
                have Q1 := hid q1
                clear q1
                go_wp2_with fail
                refine Q1.out.mono ?_
                rintro e w6 ⟨rfl, rfl⟩
                go_wp2_with fail
                go_roundw
                case rel => exact ⟨j + 1, setW W 16 x.F x.I x.V, x.V, by omega, by go_num, rfl, HY.out, (hH5.front [_] _).drop, hB5⟩
                case measure => simp [intOf] <;> omega
              · rw [if_neg (fun h => hIb h.2)] at hat
                have e3 : (x.I == (Bn : Int)) = false := by rw [beq_eq_false_iff_ne]; exact hIb
                have HY := hid hat
                clear hat hFa hIb
                go_wp2_with fail
                have q1 := Get_calls m 16 (setW W 16 x.F x.I x.V) A Bn w5 _ _ hH5
                rw [getR_at HY.out hA16 hB8] at q1
                have Q1 := hid q1
                clear q1
                go_wp2_with fail
                refine Q1.out.mono ?_
                rintro e w6 ⟨rfl, rfl⟩
                go_wp2_with fail
                go_roundw
                case rel => exact ⟨j + 1, setW W 16 x.F x.I x.V, y, by omega, by go_num, rfl, HY.out, (hH5.front [_] _).drop, hB5⟩
                case measure => simp [intOf] <;> omega
            · rw [if_neg (fun h => hFa h.1)] at hat
              have e2 : (x.F == (A : Int)) = false := by rw [beq_eq_false_iff_ne]; exact hFa
              have HY := hid hat
              clear hat hFa
              go_wp2_with fail
              have q1 := Get_calls m 16 (setW W 16 x.F x.I x.V) A Bn w5 _ _ hH5
              rw [getR_at HY.out hA16 hB8] at q1
              have Q1 := hid q1
              clear q1
              go_wp2_with fail
              refine Q1.out.mono ?_
              rintro e w6 ⟨rfl, rfl⟩
              go_wp2_with fail
              go_roundw
              case rel => exact ⟨j + 1, setW W 16 x.F x.I x.V, y, by omega, by go_num, rfl, HY.out, (hH5.front [_] _).drop, hB5⟩
              case measure => simp [intOf] <;> omega
          · rw [decide_eq_false hd]
            have hno : setW W 16 x.F x.I x.V = W := by unfold setW; rw [if_neg hd]
            rw [hno] at hH5
            have HY := HY0
            clear hd hno
            go_wp2_with fail
            have q1 := Get_calls m 16 (W) A Bn w5 _ _ hH5
            rw [getR_at HY.out hA16 hB8] at q1
            have Q1 := hid q1
            clear q1
            go_wp2_with fail
            refine Q1.out.mono ?_
            rintro e w6 ⟨rfl, rfl⟩
            go_wp2_with fail
            go_roundw
            case rel => exact ⟨j + 1, W, y, by omega, by go_num, rfl, HY.out, (hH5.front [_] _).drop, hB5⟩
            case measure => simp [intOf] <;> omega
      · obtain rfl : j = l.length := by omega
        go_wp2_with fail
        go_ret
        exact ⟨rfl, hBr⟩

end Go.Proofs.Ytedjanjjfhpcnaa
