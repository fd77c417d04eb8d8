/-
  MmuMeets: with one more right in an entry the rights of a walk are no fewer.
-/
import Derived.Test.YtlcdjdchcjnhfaaMmuHead
import Derived.StillTailTactics
import Derived.Test.YtlcdjdchcjnhfaaRightRef
namespace Go.Proofs.Ytlcdjdchcjnhfaa
open Go.RowKit
set_option linter.unusedVariables false
set_option linter.unusedSimpArgs false

/-- A word with one more right. -/
def moreN (V : Nat) : Nat := (V ||| 6) &&& 9223372036854775807
theorem more_lt {V : Nat} (hV : V < 18446744073709551616) : V ||| 6 < 18446744073709551616 := Nat.or_lt_two_pow (n := 64) (by simpa using hV) (by decide)
theorem more_bit (V i : Nat) : (moreN V).testBit i = ((V.testBit i || (6 : Nat).testBit i) && decide (i < 63)) := by
  unfold moreN
  rw [Nat.testBit_and, Nat.testBit_or, show (9223372036854775807 : Nat) = 2 ^ 63 - 1 from by decide, Nat.testBit_two_pow_sub_one]
theorem six_bit {i : Nat} (h : 3 ≤ i) : (6 : Nat).testBit i = false := Nat.testBit_lt_two_pow (Nat.lt_of_lt_of_le (by decide : 6 < 2 ^ 3) (Nat.pow_le_pow_right (by decide) h))
theorem more_P (V : Nat) : (getS (moreN V)).P = (getS V).P := by
  show (moreN V).testBit 0 = V.testBit 0
  rw [more_bit, show (6 : Nat).testBit 0 = false from by decide]
  simp
theorem more_W (V : Nat) : (getS (moreN V)).W = true := by
  show (moreN V).testBit 1 = true
  rw [more_bit, show (6 : Nat).testBit 1 = true from by decide]
  simp
theorem more_U (V : Nat) : (getS (moreN V)).U = true := by
  show (moreN V).testBit 2 = true
  rw [more_bit, show (6 : Nat).testBit 2 = true from by decide]
  simp
theorem more_NX (V : Nat) : (getS (moreN V)).NX = false := by
  show (moreN V).testBit 63 = false
  rw [more_bit]
  simp
theorem more_F (V : Nat) : (getS (moreN V)).Frame = (getS V).Frame := by
  show ((moreN V / 4096 % 1048576 : Nat) : Int) = ((V / 4096 % 1048576 : Nat) : Int)
  congr 1
  refine Nat.eq_of_testBit_eq fun i => ?_
  rw [show (4096 : Nat) = 2 ^ 12 from by decide, show (1048576 : Nat) = 2 ^ 20 from by decide, Nat.testBit_mod_two_pow, Nat.testBit_mod_two_pow, Nat.testBit_div_two_pow, Nat.testBit_div_two_pow, more_bit, six_bit (by omega)]
  by_cases h : i < 20
  · rw [decide_eq_true (show i + 12 < 63 by omega)]
    simp
  · rw [decide_eq_false h]
    simp

theorem under_refl (r : RightS) : rUnder r r = true := by
  obtain ⟨a, b, c⟩ := r
  cases a <;> cases b <;> cases c <;> rfl
theorem under_meet {r s : RightS} {a b : RightS} (h : rUnder r s = true) (h2 : rUnder a b = true) : rUnder (rMeet r a) (rMeet s b) = true := by
  obtain ⟨r1, r2, r3⟩ := r
  obtain ⟨s1, s2, s3⟩ := s
  obtain ⟨a1, a2, a3⟩ := a
  obtain ⟨b1, b2, b3⟩ := b
  simp [rUnder, rMeet] at h h2 ⊢
  grind
/-- What an entry is when a word has one more right. -/
theorem ent_more {W : List Int} {g i V : Nat} (hV : W[g * 8 + i]? = some (V : Int)) (a page : Int) (lv : Nat) :
    (entS W 16 a page lv = none ∧ entS (W.set (g * 8 + i) ((moreN V : Nat) : Int)) 16 a page lv = none) ∨
    ∃ p q, entS W 16 a page lv = some p ∧ entS (W.set (g * 8 + i) ((moreN V : Nat) : Int)) 16 a page lv = some q ∧ q.Frame = p.Frame ∧ rUnder (rOf p) (rOf q) = true := by
  have hl := (List.getElem?_eq_some_iff.1 hV).1
  unfold entS
  by_cases hk : wok 16 a (idxI page lv)
  · rw [if_pos hk, if_pos hk]
    by_cases he : wat a (idxI page lv) = g * 8 + i
    · have e1 : W.getD (wat a (idxI page lv)) 0 = (V : Int) := by rw [he, List.getD, hV]; rfl
      have e2 : (W.set (g * 8 + i) ((moreN V : Nat) : Int)).getD (wat a (idxI page lv)) 0 = ((moreN V : Nat) : Int) := by
        rw [he, List.getD, List.getElem?_set_self hl]
        rfl
      rw [e1, e2, Int.toNat_natCast, Int.toNat_natCast, more_P]
      cases hp : (getS V).P with
      | false => exact .inl ⟨rfl, rfl⟩
      | true =>
        refine .inr ⟨_, _, rfl, rfl, more_F V, ?_⟩
        simp [rUnder, rOf, more_W, more_U, more_NX]
    · have e2 : (W.set (g * 8 + i) ((moreN V : Nat) : Int)).getD (wat a (idxI page lv)) 0 = W.getD (wat a (idxI page lv)) 0 := by
        rw [List.getD, List.getD, List.getElem?_set_ne (Ne.symm he)]
      rw [e2]
      cases hp : (getS (W.getD (wat a (idxI page lv)) 0).toNat).P with
      | false => exact .inl ⟨rfl, rfl⟩
      | true => exact .inr ⟨_, _, rfl, rfl, rfl, under_refl _⟩
  · rw [if_neg hk, if_neg hk]
    exact .inl ⟨rfl, rfl⟩
theorem walk_more {W : List Int} {g i V : Nat} (hV : W[g * 8 + i]? = some (V : Int)) (page : Int) : ∀ (lv : Nat) (a : Int) (r s : RightS), rUnder r s = true →
    (walkS W 16 page lv a r = none ∧ walkS (W.set (g * 8 + i) ((moreN V : Nat) : Int)) 16 page lv a s = none) ∨
    ∃ f x y, walkS W 16 page lv a r = some (f, x) ∧ walkS (W.set (g * 8 + i) ((moreN V : Nat) : Int)) 16 page lv a s = some (f, y) ∧ rUnder x y = true
  | 0, a, r, s, h => .inr ⟨a, r, s, rfl, rfl, h⟩
  | lv + 1, a, r, s, h => by
    unfold walkS
    rcases ent_more hV a page (lv + 1) with ⟨h1, h2⟩ | ⟨p, q, h1, h2, h3, h4⟩
    · rw [h1, h2]
      exact .inl ⟨rfl, rfl⟩
    · rw [h1, h2]
      have key := walk_more hV page lv p.Frame _ _ (under_meet h h4)
      have e : walkS (W.set (g * 8 + i) ((moreN V : Nat) : Int)) 16 page lv q.Frame (rMeet s (rOf q)) = walkS (W.set (g * 8 + i) ((moreN V : Nat) : Int)) 16 page lv p.Frame (rMeet s (rOf q)) := by rw [h3]
      show (walkS W 16 page lv p.Frame (rMeet r (rOf p)) = none ∧ walkS (W.set (g * 8 + i) ((moreN V : Nat) : Int)) 16 page lv q.Frame (rMeet s (rOf q)) = none) ∨ ∃ f x y, walkS W 16 page lv p.Frame (rMeet r (rOf p)) = some (f, x) ∧ walkS (W.set (g * 8 + i) ((moreN V : Nat) : Int)) 16 page lv q.Frame (rMeet s (rOf q)) = some (f, y) ∧ rUnder x y = true
      rw [e]
      exact key
theorem walk_meets {W : List Int} {g i V : Nat} (hV : W[g * 8 + i]? = some (V : Int)) (page root : Int) : ∃ f x y k, wF (walkS W 16 page 3 root rAll) = f ∧ wR (walkS W 16 page 3 root rAll) = x ∧ (walkS W 16 page 3 root rAll).isSome = k ∧
    wF (walkS (W.set (g * 8 + i) ((moreN V : Nat) : Int)) 16 page 3 root rAll) = f ∧ wR (walkS (W.set (g * 8 + i) ((moreN V : Nat) : Int)) 16 page 3 root rAll) = y ∧ (walkS (W.set (g * 8 + i) ((moreN V : Nat) : Int)) 16 page 3 root rAll).isSome = k ∧ rUnder x y = true := by
  rcases walk_more hV page 3 root rAll rAll (under_refl _) with ⟨h1, h2⟩ | ⟨f, x, y, h1, h2, h3⟩
  · rw [h1, h2]
    exact ⟨0, rNone, rNone, false, rfl, rfl, rfl, rfl, rfl, rfl, under_refl _⟩
  · rw [h1, h2]
    exact ⟨f, x, y, true, rfl, rfl, rfl, rfl, rfl, rfl, h3⟩

set_option maxHeartbeats 4000000 in
set_option maxRecDepth 100000 in
theorem MmuMeets_walk (la : Option Addr) (llen lcap : Nat) (l : List PutS) (root page g i : Int) (w : World) (hAl : ArgRow w 3 la llen (l.flatMap putC)) (hll : ∀ x ∈ l, PutOk x) (hroot : (Lit.int .u8 root).wf = true) (hpage : (Lit.int .u16 page).wf = true) (hg : (Lit.int .u8 g).wf = true) (hi : (Lit.int .u8 i).wf = true) :
    Calls Try.prog 5 #[.slice la llen lcap, .int .u8 root, .int .u16 page, .int .u8 g, .int .u8 i] w fun e w' => e = .returned (.bool true) ∧ Below w.heap.size w w' := by
  obtain rfl := puts_len hAl
  have hsl := hAl.small
  have HAl := hid hAl
  have hok := okW_made hll
  obtain ⟨W, hW⟩ : ∃ W, madeW l = W := ⟨_, rfl⟩
  rw [hW] at hok
  have HOK := hid hok
  have HWM := hid hW
  obtain ⟨t0, t1⟩ := bounds_u8 hroot
  obtain ⟨t2, t3⟩ := bounds_u16 hpage
  obtain ⟨t4, t5⟩ := bounds_u8 hg
  obtain ⟨t6, t7⟩ := bounds_u8 hi
  have n0 : 0 ≤ page % 512 := Int.emod_nonneg _ (by decide)
  have n1 : page % 512 < 512 := Int.emod_lt_of_pos _ (by decide)
  have n2 : 0 ≤ g % 16 := Int.emod_nonneg _ (by decide)
  have n3 : g % 16 < 16 := Int.emod_lt_of_pos _ (by decide)
  have n4 : 0 ≤ i % 8 := Int.emod_nonneg _ (by decide)
  have n5 : i % 8 < 8 := Int.emod_lt_of_pos _ (by decide)
  have hH0 : Has w w.heap.size [] := Has.nil (Nat.le_refl _)
  clear hok hW hAl hll hroot hpage hg hi
  go_enter Try.func5, Try.ntmps5
  go_wp2_with fail
  refine (head_true w _ [] hH0).mono ?_
  rintro e w1 ⟨_, rfl, hH1, hB1⟩
  go_wp2_with fail
  refine (Made_calls la lcap l w1 w HAl.out hB1 _ [] hH1).mono ?_
  rintro e w2 ⟨hb, rfl, hH2, hB2⟩
  rw [HWM.out] at hH2
  have hB2 := hB1.trans hB2
  clear hH1 hB1 hH0
  go_wp2_with fail
  refine (TlbNew_yes 8 (by decide) (by decide) w2 _ _ hH2).mono ?_
  rintro e w3 ⟨tb, rfl, hH3, hB3⟩
  have hB3 := hB2.trans hB3
  clear hH2 hB2
  by_cases hbig0 : 600 < l.length
  · have e1 : decide (600 < l.length) = true := decide_eq_true hbig0
    have e2 : decide (600 < (l.length : Int)) = true := decide_eq_true (by omega)
    go_wp2_with fail
    go_ret
    exact ⟨rfl, hB3⟩
  have f0 : decide (600 < l.length) = false := decide_eq_false hbig0
  have g0 : decide (600 < (l.length : Int)) = false := decide_eq_false (by omega)
  go_wp2_with fail
  refine (MmuNew_calls tb hb w3 _ _ hH3).mono ?_
  rintro e w4 ⟨mb, rfl, hH4, hB4⟩
  have hB4 := hB3.trans hB4
  clear hH3 hB3 f0 g0
  have hWl := (MemA.fits (hH4.front [_, _] _)).2.2
  obtain ⟨V, hV, hVV⟩ := okW_at HOK.out (wat (g % 16) (i % 8))
  have hk : wok 16 (g % 16) (i % 8) := ⟨n2, n3, n4, n5⟩
  have hlt := wat_lt hk
  have hat : W[(g % 16).toNat * 8 + (i % 8).toNat]? = some (V : Int) := by
    show W[wat (g % 16) (i % 8)]? = some (V : Int)
    rw [List.getD, List.getElem?_eq_getElem (by omega)] at hVV
    rw [List.getElem?_eq_getElem (by omega), ← hVV]
    rfl
  have hgr : getR W 16 (g % 16) (i % 8) = .tuple #[.int .u64 (V : Int), .bool true] := by
    have hVV' := hVV
    rw [List.getD_eq_getElem?_getD] at hVV'
    simp [getR, hk, hVV']
  obtain ⟨Y, hY⟩ : ∃ Y, setW W 16 (g % 16) (i % 8) ((moreN V : Nat) : Int) = Y := ⟨_, rfl⟩
  have hYe : W.set ((g % 16).toNat * 8 + (i % 8).toNat) ((moreN V : Nat) : Int) = Y := by
    rw [← hY]
    unfold setW
    rw [if_pos hk]
    rfl
  have hml : moreN V < 18446744073709551616 := Nat.lt_of_le_of_lt Nat.and_le_right (by decide)
  have hokY : okW Y := by
    rw [← hY]
    exact okW_set HOK.out _ _ _ _ ⟨by omega, by omega⟩
  have HOKY := hid hokY
  have HY := hid hY
  obtain ⟨f, x, y, ia, q1, q2, q3, q4, q5, q6, q7⟩ := walk_meets hat (page % 512) root
  rw [hYe] at q4 q5 q6
  have Q1 := hid q1
  have Q2 := hid q2
  have Q3 := hid q3
  have Q4 := hid q4
  have Q5 := hid q5
  have Q6 := hid q6
  have Q7 := hid q7
  have b1 : bits .or .u64 (V : Int) 6 = ((V ||| 6 : Nat) : Int) := u64_or_nat V 6 hV (by decide)
  have b2 : bits .andNot .u64 ((V ||| 6 : Nat) : Int) 9223372036854775808 = ((moreN V : Nat) : Int) := by
    rw [show (9223372036854775808 : Int) = ((9223372036854775808 : Nat) : Int) from rfl, u64_andNot_nat _ _ (more_lt hV) (by decide)]
    rfl
  obtain ⟨Z, hZ⟩ : ∃ Z, (V ||| 6 : Nat) = Z := ⟨_, rfl⟩
  obtain ⟨N, hN⟩ : ∃ N, moreN V = N := ⟨_, rfl⟩
  rw [hZ] at b1 b2
  rw [hN] at b2 HY
  have HGR := hid hgr
  clear hZ hN hgr hY hYe hokY hml hat hlt hk hVV hV hWl q1 q2 q3 q4 q5 q6 q7
  go_wp2_with fail
  refine (Walk3 (f := f) (r := x) (i := ia) mb tb hb 16 W root (page % 512) HOK.out rfl Q1.out Q2.out Q3.out w4 _ _ ((hH4.front [_, _] _).front [_] _)).mono ?_
  rintro e w5 ⟨rfl, hH5, hB5⟩
  have hB5 := hB4.trans hB5
  clear hH4 hB4
  obtain ⟨ra, hra⟩ : ∃ ra, w5.heap.size = ra := ⟨_, rfl⟩
  have tok : True := trivial
  go_wp2_with (have _t := tok; refine wpList_store_all [] _ (hH5.newblk ra 38 #[.bool false, .bool false, .bool false] hra) 38 (.tmp 17) (.tmp 63) rfl rfl rfl (rightC x).toArray rfl right_size rfl (rightC_one _) ?_; clear _t tok; intro w6 hH6 hB6' hz; clear hz; have hB6 := hB5.trans ((below_new (Below.refl _ _) hH5 _).trans hB6'); clear hB6' hB5 hH5)
  clear hra
  have cg := Get_calls hb 16 W (g % 16) (i % 8) w6 _ _ ((hH6.front [_, _] _))
  rw [HGR.out] at cg
  refine cg.mono ?_
  rintro e w' ⟨rfl, rfl⟩
  clear cg
  go_wp2_with fail
  refine (Set_calls hb 16 W (g % 16) (i % 8) N w6 _ _ (hH6.front [_, _] _)).mono ?_
  rintro e w7 ⟨rfl, hH7, hB7⟩
  have hB7 := hB6.trans hB7
  clear hH6 hB6
  rw [HY.out] at hH7
  go_wp2_with fail
  refine (Walk3 (f := f) (r := y) (i := ia) mb tb hb 16 Y root (page % 512) HOKY.out rfl Q4.out Q5.out Q6.out w7 _ _ (hH7.front [_, _] _)).mono ?_
  rintro e w8 ⟨rfl, hH8, hB8⟩
  have hB8 := hB7.trans hB8
  clear hH7 hB7
  obtain ⟨rb, hrb⟩ : ∃ rb, w8.heap.size = rb := ⟨_, rfl⟩
  have tok : True := trivial
  go_wp2_with (have _t := tok; refine wpList_store_all [] _ (hH8.newblk rb 38 #[.bool false, .bool false, .bool false] hrb) 38 (.tmp 22) (.tmp 94) rfl rfl rfl (rightC y).toArray rfl right_size rfl (rightC_one _) ?_; clear _t tok; intro w9 hH9 hB9' hz; clear hz; have hB9 := hB8.trans ((below_new (Below.refl _ _) hH8 _).trans hB9'); clear hB9' hB8 hH8; have d0 := Has.cell [_, _, _] _ hH9 0 (v := .bool x.W) rfl; have d1 := Has.cell [_, _, _] _ hH9 1 (v := .bool x.U) rfl; have d2 := Has.cell [_, _, _] _ hH9 2 (v := .bool x.X) rfl; have e0 := Has.cell [] _ hH9 0 (v := .bool y.W) rfl; have e1 := Has.cell [] _ hH9 1 (v := .bool y.U) rfl; have e2 := Has.cell [] _ hH9 2 (v := .bool y.X) rfl)
  clear hrb
  refine (keeps (Under_calls x y _) hH9).mono ?_
  rintro e w20 ⟨rfl, hH20, hB20⟩
  rw [Q7.out]
  go_wp2_with fail
  go_ret
  exact ⟨rfl, hB9.trans hB20⟩

end Go.Proofs.Ytlcdjdchcjnhfaa
