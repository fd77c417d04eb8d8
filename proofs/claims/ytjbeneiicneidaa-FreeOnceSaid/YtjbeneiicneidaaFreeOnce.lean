/-
  FreeOnce: no frame is taken twice, unless it was given back between; only what was taken is given back.
-/
import Derived.Test.YtjbeneiicneidaaFreeHead
import Derived.Test.YtjbeneiicneidaaFreeArgs
namespace Go.Proofs.Ytjbeneiicneidaa
open Go.RowKit
set_option linter.unusedVariables false
set_option linter.unusedSimpArgs false

/-- Is frame q taken? -/
def tkn (a n : Int) (F : List Int) (q : Int) : Bool := decide (a ≤ q ∧ q < a + n ∧ q ∉ F)
/-- The law's own record of what is taken. -/
def heldL (a n : Int) (F : List Int) : List Bool := (List.range 200).map (fun q : Nat => tkn a n F q)
theorem heldL_get (a n : Int) (F : List Int) (q : Nat) (h : q < 200) : (heldL a n F)[q]? = some (tkn a n F q) := by simp [heldL, h]

theorem list_ext200 {l1 l2 : List Bool} (h1 : l1.length = 200) (h2 : l2.length = 200) (h : ∀ q : Nat, q < 200 → l1[q]? = l2[q]?) : l1 = l2 := by
  apply List.ext_getElem?
  intro q
  by_cases hq : q < 200
  · exact h q hq
  · rw [List.getElem?_eq_none (by omega), List.getElem?_eq_none (by omega)]

theorem heldL_length (a n : Int) (F : List Int) : (heldL a n F).length = 200 := by simp [heldL]

theorem heldL_fresh (a n : Int) : falses 200 = heldL a n (freshL a n 0) := by
  refine list_ext200 (falses_length _) (heldL_length _ _ _) (fun q hq => ?_)
  rw [falses_get hq, heldL_get _ _ _ q hq]
  congr 1
  symm
  unfold tkn
  rw [decide_eq_false_iff_not, freshL_mem]
  omega

theorem heldL_take (a n : Int) (F : List Int) (q : Nat) (hn : (F ++ [(q : Int)]).Nodup) (h1 : a ≤ q) (h2 : (q : Int) < a + n) (h3 : q < 200) : (heldL a n (F ++ [(q : Int)])).set q true = heldL a n F := by
  refine list_ext200 (by simp [heldL_length]) (heldL_length _ _ _) (fun z hz => ?_)
  rw [heldL_get _ _ _ z hz, List.getElem?_set]
  by_cases e : q = z
  · subst e
    rw [if_pos rfl, if_pos (by simp [heldL_length, h3])]
    congr 1
    symm
    unfold tkn
    rw [decide_eq_true_eq]
    rw [List.nodup_append] at hn
    exact ⟨h1, h2, fun h => hn.2.2 _ h _ (by simp) rfl⟩
  · rw [if_neg e, heldL_get _ _ _ z hz]
    congr 1
    unfold tkn
    have : ((z : Int) ∈ F ++ [(q : Int)]) ↔ (z : Int) ∈ F := by
      rw [List.mem_append, List.mem_singleton]
      constructor
      · rintro (h | h)
        · exact h
        · omega
      · exact .inl
    rw [decide_eq_decide, this]

theorem heldL_give (a n : Int) (F : List Int) (q : Nat) : (heldL a n F).set q false = heldL a n (F ++ [(q : Int)]) := by
  refine list_ext200 (by simp [heldL_length]) (heldL_length _ _ _) (fun z hz => ?_)
  rw [heldL_get _ _ _ z hz, List.getElem?_set]
  by_cases e : q = z
  · subst e
    rw [if_pos rfl, if_pos (by simp [heldL_length, hz])]
    congr 1
    symm
    unfold tkn
    rw [decide_eq_false_iff_not]
    exact fun h => h.2.2 (by simp)
  · rw [if_neg e, heldL_get _ _ _ z hz]
    congr 1
    unfold tkn
    have : ((z : Int) ∈ F ++ [(q : Int)]) ↔ (z : Int) ∈ F := by
      rw [List.mem_append, List.mem_singleton]
      constructor
      · rintro (h | h)
        · exact h
        · omega
      · exact .inl
    rw [decide_eq_decide, this]

theorem zero200 (w : World) : Sem.run Try.prog (zeroValue 35) w = .ok (.agg (boolsA (falses 200))) w := by kernel_rfl

set_option maxHeartbeats 8000000 in
set_option maxRecDepth 100000 in
theorem FreeOnce_walk (u c : Int) (ar : Option Addr) (len cap : Nat) (l : List (Bool × Int)) (w : World) (hu : (Lit.int .u8 u).wf = true) (hc : (Lit.int .u8 c).wf = true) (hA : ArgRow w 2 ar len (l.flatMap opC)) (hl : ∀ x ∈ l, opOk x) :
    Calls Try.prog 4 #[.int .u8 u, .int .u8 c, .slice ar len cap] w fun e w' => e = .returned (.bool true) ∧ Below w.heap.size w w' := by
  obtain ⟨u0, u1⟩ := bounds_u8 hu
  obtain ⟨c0, c1⟩ := bounds_u8 hc
  obtain ⟨hl1, hl2, hl3⟩ := hA
  have hl4 : l.length = len := by rw [flat_length opC 2 (fun _ => rfl)] at hl1; omega
  clear hc hl1 hu
  have hH0 : Has w w.heap.size [] := Has.nil (Nat.le_refl _)
  have HL := hid hl4
  clear hl4
  by_cases hbig : 600 < len
  · go_enter Try.func4, Try.ntmps4
    go_wp2_with fail
    refine (head_true w _ [] hH0).mono ?_
    rintro e w1 ⟨_, rfl, hH1, hB1⟩
    go_wp2_with fail
    refine ((FreeNew_ok (u % 100) (c % 100) (by omega) (by omega) (by omega) (by omega)).mk hH1).mono ?_
    rintro e w2 ⟨x, rfl, hH2, hB2⟩
    go_wp2_with fail
    go_ret
    exact ⟨rfl, hB1.trans hB2⟩
  · have hzero := zero200
    go_enter Try.func4, Try.ntmps4
    go_wp2_with fail
    refine (head_true w _ [] hH0).mono ?_
    rintro e w1 ⟨_, rfl, hH1, hB1⟩
    go_wp2_with fail
    have n0 : 0 ≤ c % 100 := by omega
    have n1 : c % 100 ≤ 99 := by omega
    have a0 : 0 ≤ u % 100 := by omega
    have a1 : u % 100 ≤ 99 := by omega
    generalize c % 100 = n at *
    generalize u % 100 = a at *
    refine ((FreeNew_ok a n (by omega) (by omega) (by omega) (by omega)).mk hH1).mono ?_
    rintro e w2 ⟨x, rfl, hH2, hB2⟩
    have hB := hB1.trans hB2
    clear hH0 hH1 hB1 hB2
    go_wp2_with fail
    have hN := hH2.newblk w2.heap.size 35 (boolsA (falses 200)) rfl
    have hBN := below_new hB hH2 (.cells (boolsA (falses 200)) 35)
    generalize hsb : w2.heap.size = sb at *
    generalize w2.alloc _ = wa at *
    rw [heldL_fresh a n] at hN
    clear hH2 hB hzero hsb
    go_loopw [12, 13, 14, 15, 16] (fun o i _ _ _ wr => ∃ (j : Nat) (F : List Int), j ≤ len ∧ i = .int .i64 j ∧ o = .int .i64 (n - F.length) ∧ Has wr w.heap.size [blk sb 35 (boolsA (heldL a n F)), FreeA x a n F] ∧ Below w.heap.size w wr) (fun _ i _ _ _ _ => len - (intOf i).toNat)
    case atStart => exact ⟨0, _, by omega, rfl, by rw [freshL_length]; congr 1; omega, hN, hBN⟩
    case round =>
      obtain ⟨j, F, hj, rfl, rfl, hHr, hBr⟩ := hrel
      clear hN hBN
      have hfit := hHr.free [_] _
      have hln := hfit.ln
      by_cases hlt : j < len
      · obtain ⟨ba, oa, rfl, hba, hca⟩ := hl3 (by omega)
        have HL2 := HL.out
        obtain ⟨⟨g, f⟩, hz⟩ : ∃ z, l[j]? = some z := ⟨l[j], by simp [HL2, hlt]⟩
        have hw : (Lit.int .i64 f).wf = true := hl _ (List.mem_of_getElem? hz)
        have HCA := hid hca
        have HZ := hid hz
        clear HL2 hca hz
        cases g with
        | true =>
          by_cases hf0 : 0 ≤ f ∧ f < 200
          · obtain ⟨q, rfl⟩ : ∃ q : Nat, f = q := ⟨f.toNat, by omega⟩
            have q1 : q < 200 := by omega
            cases hg : tkn a n F q with
            | true =>
              have cg := give_is x a n q F (F ++ [(q : Int)]) true hw hg (by unfold given; rw [show givesB a n F q = true from hg]; rfl)
              have HF := hid hfit
              have HG := hid hg
              clear hfit hg
              have k0 := ArgRow.elem (f := opC) (size := 2) (fun _ => rfl) hba HCA.out hBr j 0 _ HZ.out (u := .bool true) rfl
              rw [Nat.add_zero] at k0
              have k1 := ArgRow.elem (f := opC) (size := 2) (fun _ => rfl) hba HCA.out hBr j 1 _ HZ.out (u := .int .i64 q) rfl
              have k2 := hHr.cell [] _ q (boolsA_get ((heldL_get a n F q q1).trans (congrArg some HG.out)))
              go_wp2_with fail
              refine (cg.at [_] [] hHr).mono ?_
              rintro e w4 ⟨_, rfl, hH4, hB4⟩
              have hBr4 := hBr.trans hB4
              have k0 := ArgRow.elem (f := opC) (size := 2) (fun _ => rfl) hba HCA.out hBr4 j 1 _ HZ.out (u := .int .i64 q) rfl
              have k3 := hH4.cell [] _ q (boolsA_get ((heldL_get a n F q q1).trans (congrArg some HG.out)))
              have k4 := hH4.frozen [] _ q
              go_wp2_with fail
              have hH5 := hH4.set [] _ q (.bool false)
              rw [boolsA_set, heldL_give] at hH5
              have hB5 := below_set hBr4 [] _ hH4 q (.bool false)
              have e5 : ((F ++ [(q : Int)]).length : Int) = F.length + 1 := by simp
              refine ((left_is x a n (F.length + 1) (F ++ [(q : Int)]) e5).at [_] [] hH5).mono ?_
              have E5 := hid e5
              clear e5
              rintro e w6 ⟨_, rfl, hH6, hB6⟩
              go_wp2_with fail
              go_roundw
              case rel => exact ⟨j + 1, F ++ [(q : Int)], by omega, by go_num, by rw [E5.out]; congr 1; omega, hH6, hB5.trans hB6⟩
              case measure => simp [intOf] <;> omega
            | false =>
              have cg := give_is x a n q F F false hw hg (by unfold given; rw [show givesB a n F q = false from hg]; rfl)
              have HF := hid hfit
              have HG := hid hg
              clear hfit hg
              have k0 := ArgRow.elem (f := opC) (size := 2) (fun _ => rfl) hba HCA.out hBr j 0 _ HZ.out (u := .bool true) rfl
              rw [Nat.add_zero] at k0
              have k1 := ArgRow.elem (f := opC) (size := 2) (fun _ => rfl) hba HCA.out hBr j 1 _ HZ.out (u := .int .i64 q) rfl
              have k2 := hHr.cell [] _ q (boolsA_get ((heldL_get a n F q q1).trans (congrArg some HG.out)))
              go_wp2_with fail
              refine (cg.at [_] [] hHr).mono ?_
              rintro e w4 ⟨_, rfl, hH4, hB4⟩
              go_wp2_with fail
              refine ((left_is x a n F.length F rfl).at [_] [] hH4).mono ?_
              rintro e w6 ⟨_, rfl, hH6, hB6⟩
              go_wp2_with fail
              go_roundw
              case rel => exact ⟨j + 1, F, by omega, by go_num, rfl, hH6, hBr.trans (hB4.trans hB6)⟩
              case measure => simp [intOf] <;> omega
          · have hg : givesB a n F f = false := by unfold givesB; rw [decide_eq_false_iff_not]; exact fun h => hf0 ⟨by omega, by omega⟩
            have cg := give_is x a n f F F false hw hg (by unfold given; rw [hg]; rfl)
            have k0 := ArgRow.elem (f := opC) (size := 2) (fun _ => rfl) hba HCA.out hBr j 0 _ HZ.out (u := .bool true) rfl
            rw [Nat.add_zero] at k0
            have k1 := ArgRow.elem (f := opC) (size := 2) (fun _ => rfl) hba HCA.out hBr j 1 _ HZ.out (u := .int .i64 f) rfl
            clear hg hfit
            by_cases hf1 : 0 ≤ f
            · have hf2 : 200 ≤ f := by omega
              clear hf0
              go_wp2_with fail
              refine (cg.at [_] [] hHr).mono ?_
              rintro e w4 ⟨_, rfl, hH4, hB4⟩
              go_wp2_with fail
              refine ((left_is x a n F.length F rfl).at [_] [] hH4).mono ?_
              rintro e w6 ⟨_, rfl, hH6, hB6⟩
              go_wp2_with fail
              go_roundw
              case rel => exact ⟨j + 1, F, by omega, by go_num, rfl, hH6, hBr.trans (hB4.trans hB6)⟩
              case measure => simp [intOf] <;> omega
            · clear hf0
              go_wp2_with fail
              refine (cg.at [_] [] hHr).mono ?_
              rintro e w4 ⟨_, rfl, hH4, hB4⟩
              go_wp2_with fail
              refine ((left_is x a n F.length F rfl).at [_] [] hH4).mono ?_
              rintro e w6 ⟨_, rfl, hH6, hB6⟩
              go_wp2_with fail
              go_roundw
              case rel => exact ⟨j + 1, F, by omega, by go_num, rfl, hH6, hBr.trans (hB4.trans hB6)⟩
              case measure => simp [intOf] <;> omega
        | false =>
          have k0 := ArgRow.elem (f := opC) (size := 2) (fun _ => rfl) hba HCA.out hBr j 0 _ HZ.out (u := .bool false) rfl
          rw [Nat.add_zero] at k0
          rcases List.eq_nil_or_concat F with rfl | ⟨F', y, rfl⟩
          · have ct := take_is x a n 0 [] [] false rfl rfl rfl
            have hn0 : n - ((List.length ([] : List Int)) : Int) = n := by simp
            clear hfit hln
            rw [hn0]
            have HN0 := hid hn0
            clear hn0
            go_wp2_with fail
            refine (ct.at [_] [] hHr).mono ?_
            rintro e w4 ⟨_, rfl, hH4, hB4⟩
            go_wp2_with fail
            refine ((left_is x a n 0 [] rfl).at [_] [] hH4).mono ?_
            rintro e w6 ⟨_, rfl, hH6, hB6⟩
            go_wp2_with fail
            go_roundw
            case rel => exact ⟨j + 1, [], by omega, by go_num, by rw [HN0.out], hH6, hBr.trans (hB4.trans hB6)⟩
            case measure => simp [intOf] <;> omega
          · rw [List.concat_eq_append] at hHr hfit hln ⊢
            have hyr := hfit.rg y (by simp)
            obtain ⟨q, rfl⟩ : ∃ q : Nat, y = q := ⟨y.toNat, by omega⟩
            have q1 : q < 200 := by omega
            have q2 : a ≤ q := hyr.1
            have q3 : (q : Int) < a + n := hyr.2
            have ct := take_is x a n q (F' ++ [(q : Int)]) F' true (by simp [takeV]) (by simp [takeB]) (by simp)
            have hln2 : (F'.length : Int) + 1 ≤ n := by simpa using hln
            have e1 : n - ((F' ++ [(q : Int)]).length : Int) = n - F'.length - 1 := by simp; omega
            have HND := hid hfit.nd
            have hg : tkn a n (F' ++ [(q : Int)]) q = false := by unfold tkn; rw [decide_eq_false_iff_not]; exact fun h => h.2.2 (by simp)
            have HG := hid hg
            rw [e1]
            clear hfit hln hyr e1 hg
            go_wp2_with fail
            refine (ct.at [_] [] hHr).mono ?_
            rintro e w4 ⟨_, rfl, hH4, hB4⟩
            have k3 := hH4.cell [] _ q (boolsA_get ((heldL_get a n (F' ++ [(q : Int)]) q q1).trans (congrArg some HG.out)))
            have k4 := hH4.frozen [] _ q
            go_wp2_with fail
            have hH5 := hH4.set [] _ q (.bool true)
            rw [boolsA_set, heldL_take a n F' q HND.out q2 q3 q1] at hH5
            have hB5 := below_set (hBr.trans hB4) [] _ hH4 q (.bool true)
            refine ((left_is x a n F'.length F' rfl).at [_] [] hH5).mono ?_
            rintro e w6 ⟨_, rfl, hH6, hB6⟩
            go_wp2_with fail
            go_roundw
            case rel => exact ⟨j + 1, F', by omega, by go_num, by congr 1 <;> omega, hH6, hB5.trans hB6⟩
            case measure => simp [intOf] <;> omega
      · obtain rfl : len = j := by omega
        clear hl3 HL hfit hln
        go_wp2_with fail
        obtain ⟨wo, rfl⟩ : ∃ wo : World, wo = wr := ⟨_, rfl⟩
        go_loopw [17] (fun i wr => ∃ k : Nat, k ≤ 200 ∧ i = .int .i64 k ∧ Has wr w.heap.size [blk sb 35 (boolsA (heldL a n F)), FreeA x a n F] ∧ Below w.heap.size w wr) (fun i _ => 200 - (intOf i).toNat)
        case atStart => exact ⟨0, by omega, rfl, hHr, hBr⟩
        case round =>
          obtain ⟨k, hk, rfl, hHr, hBr⟩ := hrel
          by_cases hlt2 : k < 200
          · have hw : (Lit.int .i64 (k : Int)).wf = true := WalkArith.wf_i64 (by omega)
            have hfit := hHr.free [_] _
            by_cases hm : (k : Int) ∈ F
            · have hr := hfit.rg _ hm
              have r1 : a ≤ (k : Int) := hr.1
              have r2 : (k : Int) < a + n := hr.2
              have ch := has_is x a n k F true hw (by simpa using hm)
              have hg : tkn a n F k = false := by unfold tkn; rw [decide_eq_false_iff_not]; exact fun h => h.2.2 hm
              have HG := hid hg
              clear hfit hr hg hm
              go_wp2_with fail
              refine (ch.at [_] [] hHr).mono ?_
              rintro e w4 ⟨_, rfl, hH4, hB4⟩
              have k3 := hH4.cell [] _ k (boolsA_get ((heldL_get a n F k hlt2).trans (congrArg some HG.out)))
              go_wp2_with fail
              go_roundw
              case rel => exact ⟨k + 1, by omega, by go_num, hH4, hBr.trans hB4⟩
              case measure => simp [intOf] <;> omega
            · have ch := has_is x a n k F false hw (by simpa using hm)
              by_cases hr : a ≤ (k : Int) ∧ (k : Int) < a + n
              · have r1 : a ≤ (k : Int) := hr.1
                have r2 : (k : Int) < a + n := hr.2
                have hg : tkn a n F k = true := by unfold tkn; rw [decide_eq_true_eq]; exact ⟨r1, r2, hm⟩
                have HG := hid hg
                clear hfit hr hg hm
                go_wp2_with fail
                refine (ch.at [_] [] hHr).mono ?_
                rintro e w4 ⟨_, rfl, hH4, hB4⟩
                have k3 := hH4.cell [] _ k (boolsA_get ((heldL_get a n F k hlt2).trans (congrArg some HG.out)))
                go_wp2_with fail
                go_roundw
                case rel => exact ⟨k + 1, by omega, by go_num, hH4, hBr.trans hB4⟩
                case measure => simp [intOf] <;> omega
              · clear hfit hm
                by_cases r1 : a ≤ (k : Int)
                · have r2 : a + n ≤ (k : Int) := by omega
                  clear hr
                  go_wp2_with fail
                  refine (ch.at [_] [] hHr).mono ?_
                  rintro e w4 ⟨_, rfl, hH4, hB4⟩
                  go_wp2_with fail
                  go_roundw
                  case rel => exact ⟨k + 1, by omega, by go_num, hH4, hBr.trans hB4⟩
                  case measure => simp [intOf] <;> omega
                · clear hr
                  go_wp2_with fail
                  refine (ch.at [_] [] hHr).mono ?_
                  rintro e w4 ⟨_, rfl, hH4, hB4⟩
                  go_wp2_with fail
                  go_roundw
                  case rel => exact ⟨k + 1, by omega, by go_num, hH4, hBr.trans hB4⟩
                  case measure => simp [intOf] <;> omega
          · go_wp2_with fail
            go_ret
            exact ⟨rfl, hBr⟩

end Go.Proofs.Ytjbeneiicneidaa
