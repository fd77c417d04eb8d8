/-
  PteUnlike: unlike entries that may be put have unlike words; unlike words that are not bad say unlike things.
-/
import Derived.Test.YtcigjchncahpaaaPteHead
import Derived.Test.YtcigjchncahpaaaPteArgs
namespace Go.Proofs.Ytcigjchncahpaaa
open Go.RowKit Go.Sort
set_option linter.unusedVariables false
set_option linter.unusedSimpArgs false

theorem put_inj {p q : PteS} (hp : putOk p = true) (hq : putOk q = true) : decide (((putN p : Nat) : Int) = ((putN q : Nat) : Int)) = decide (p = q) := by
  rw [decide_eq_decide]
  constructor
  · intro h
    have h' : putN p = putN q := by omega
    rw [← get_put p hp, ← get_put q hq, h']
  · intro h; rw [h]

theorem get_inj {V U : Nat} (hV : V < 18446744073709551616) (hU : U < 18446744073709551616) (h1 : badN V = false) (h2 : badN U = false) : decide (getS V = getS U) = decide ((V : Int) = (U : Int)) := by
  rw [decide_eq_decide]
  constructor
  · intro h
    rw [← put_get hV h1, ← put_get hU h2, h]
  · intro h
    have : V = U := by omega
    rw [this]

set_option maxHeartbeats 4000000 in
set_option maxRecDepth 100000 in
theorem PteUnlike_core (p q S T : PteS) (V U : Nat) (x y : Int) (ip iq : Bool) (w : World)
    (cp : ∀ W, Calls Try.prog 10 #[.agg (pteC p)] W fun e w' => e = .returned (.tuple #[.int .u64 x, .bool ip]) ∧ Below W.heap.size W w')
    (cq : ∀ W, Calls Try.prog 10 #[.agg (pteC q)] W fun e w' => e = .returned (.tuple #[.int .u64 y, .bool iq]) ∧ Below W.heap.size W w')
    (cv : ∀ W, Calls Try.prog 12 #[.int .u64 (V : Int)] W fun e w' => e = .returned (.agg (pteC S)) ∧ Below W.heap.size W w')
    (cu : ∀ W, Calls Try.prog 12 #[.int .u64 (U : Int)] W fun e w' => e = .returned (.agg (pteC T)) ∧ Below W.heap.size W w')
    (hpq : ip = true → iq = true → (x == y) = decide (p = q)) (hST : S.Bad = false → T.Bad = false → decide (S = T) = ((V : Int) == (U : Int))) :
    Calls Try.prog 7 #[.agg (pteC p), .agg (pteC q), .int .u64 (V : Int), .int .u64 (U : Int)] w fun e w' => e = .returned (.bool true) ∧ Below w.heap.size w w' := by
  have hH0 : Has w w.heap.size [] := Has.nil (Nat.le_refl _)
  have hN1 := hH0.newblk w.heap.size 24 (pteC p) rfl
  have hN := hN1.newblk (w.heap.size + 1) 24 (pteC q) (by simp)
  have hBN := below_new (below_new (Below.refl w.heap.size w) hH0 (.cells (pteC p) 24)) hN1 (.cells (pteC q) 24)
  have heq := fun W => pte_eql p q W
  have heS := fun W => pte_eql S T W
  have CP := hid cp
  have CQ := hid cq
  have CV := hid cv
  have CU := hid cu
  have HPQ := hid hpq
  have HST := hid hST
  clear cp cq cv cu hpq hST hH0 hN1
  go_enter Try.func7, Try.ntmps7
  go_wp2_with fail
  refine (head_true _ _ _ hN).mono ?_
  rintro e w1 ⟨_, rfl, hH1, hB1⟩
  have hB1 := hBN.trans hB1
  clear hBN hN
  generalize hb : w.heap.size = b at *
  have HBB := hid hb
  clear hb
  go_wp2_with (refine wpList_load_blk [_] _ hH1 24 (.tmp 4) rfl rfl rfl _ Try.underlying24 rfl (pte_size _) ?_)
  refine (keeps (CP.out _) hH1).mono ?_
  rintro e w2 ⟨rfl, hH2, hB2⟩
  go_wp2_with (refine wpList_load_blk [] _ hH2 24 (.tmp 5) rfl rfl rfl _ Try.underlying24 rfl (pte_size _) ?_)
  refine (keeps (CQ.out _) hH2).mono ?_
  rintro e w3 ⟨rfl, hH3, hB3⟩
  have hB3 := hB1.trans (hB2.trans hB3)
  clear hB1 hB2 hH1 hH2
  -- THE WAYS of the first test
  -- THE WAYS of the first test
  -- THE WAYS of the first test
  -- THE WAYS of the first test
  -- THE WAYS of the first test
  cases ip
  · clear heq
    go_wp2_with fail
    refine (keeps (CV.out _) hH3).mono ?_
    rintro e w5 ⟨rfl, hH5, hB5⟩
    go_wp2_with (refine wpList_store_all [] _ (hH5.newblk w5.heap.size 24 pteZ rfl) 24 (.tmp 14) (.tmp 41) rfl rfl rfl _ rfl (pte_size _) rfl (pte_one _) ?_; intro w6 hH6 hB6 hz6; clear hz6)
    refine (keeps (CU.out _) hH6).mono ?_
    rintro e w7 ⟨rfl, hH7, hB7⟩
    have hB8 := hB3.trans (hB5.trans (((below_new (Below.refl _ _) hH5 _).trans hB6).trans hB7))
    have hN7 := hH7.newblk w7.heap.size 24 pteZ rfl
    have hBN7 := below_new hB8 hH7 (.cells pteZ 24)
    clear hB3 hB5 hB6 hB7 hB8 hH3 hH5 hH6
    cases hS : S.Bad with
    | true =>
      have tok1 : True := trivial
      go_wp2_with (have _t := tok1; refine wpList_store_all [] _ hN7 24 (.tmp 15) (.tmp 43) rfl rfl rfl _ rfl (pte_size _) rfl (pte_one _) ?_; clear _t tok1; intro w8 hH8 hB8 hz8; clear hz8; have k7 := (pte_cells [_] _ hH8).2.2.2.2.2.2.2.1; rw [hS] at k7)
      go_ret
      exact ⟨rfl, by rw [HBB.out]; exact hBN7.trans hB8⟩
    | false =>
      cases hT : T.Bad with
      | true =>
        have tok1 : True := trivial
        go_wp2_with (have _t := tok1; refine wpList_store_all [] _ hN7 24 (.tmp 15) (.tmp 43) rfl rfl rfl _ rfl (pte_size _) rfl (pte_one _) ?_; clear _t tok1; intro w8 hH8 hB8 hz8; clear hz8; have k7 := (pte_cells [_] _ hH8).2.2.2.2.2.2.2.1; have j7 := (pte_cells [] _ hH8).2.2.2.2.2.2.2.1; rw [hS] at k7; rw [hT] at j7)
        go_ret
        exact ⟨rfl, by rw [HBB.out]; exact hBN7.trans hB8⟩
      | false =>
        have hst := HST.out hS hT
        rw [hst] at heS
        have tok1 : True := trivial
        have tok2 : True := trivial
        have tok3 : True := trivial
        go_wp2_with (first
          | (have _t := tok1; refine wpList_store_all [] _ hN7 24 (.tmp 15) (.tmp 43) rfl rfl rfl _ rfl (pte_size _) rfl (pte_one _) ?_; clear _t tok1; intro w8 hH8 hB8 hz8; clear hz8; have k7 := (pte_cells [_] _ hH8).2.2.2.2.2.2.2.1; have j7 := (pte_cells [] _ hH8).2.2.2.2.2.2.2.1; rw [hS] at k7; rw [hT] at j7)
          | (refine wpList_load_blk [_] _ hH8 24 (.tmp 14) rfl rfl rfl _ Try.underlying24 rfl (pte_size _) ?_)
          | (refine wpList_load_blk [] _ hH8 24 (.tmp 15) rfl rfl rfl _ Try.underlying24 rfl (pte_size _) ?_))
        go_ret
        exact ⟨by simp, by rw [HBB.out]; exact hBN7.trans hB8⟩
  · cases iq
    · clear heq
      go_wp2_with fail
      refine (keeps (CV.out _) hH3).mono ?_
      rintro e w5 ⟨rfl, hH5, hB5⟩
      go_wp2_with (refine wpList_store_all [] _ (hH5.newblk w5.heap.size 24 pteZ rfl) 24 (.tmp 14) (.tmp 41) rfl rfl rfl _ rfl (pte_size _) rfl (pte_one _) ?_; intro w6 hH6 hB6 hz6; clear hz6)
      refine (keeps (CU.out _) hH6).mono ?_
      rintro e w7 ⟨rfl, hH7, hB7⟩
      have hB8 := hB3.trans (hB5.trans (((below_new (Below.refl _ _) hH5 _).trans hB6).trans hB7))
      have hN7 := hH7.newblk w7.heap.size 24 pteZ rfl
      have hBN7 := below_new hB8 hH7 (.cells pteZ 24)
      clear hB3 hB5 hB6 hB7 hB8 hH3 hH5 hH6
      cases hS : S.Bad with
      | true =>
        have tok1 : True := trivial
        go_wp2_with (have _t := tok1; refine wpList_store_all [] _ hN7 24 (.tmp 15) (.tmp 43) rfl rfl rfl _ rfl (pte_size _) rfl (pte_one _) ?_; clear _t tok1; intro w8 hH8 hB8 hz8; clear hz8; have k7 := (pte_cells [_] _ hH8).2.2.2.2.2.2.2.1; rw [hS] at k7)
        go_ret
        exact ⟨rfl, by rw [HBB.out]; exact hBN7.trans hB8⟩
      | false =>
        cases hT : T.Bad with
        | true =>
          have tok1 : True := trivial
          go_wp2_with (have _t := tok1; refine wpList_store_all [] _ hN7 24 (.tmp 15) (.tmp 43) rfl rfl rfl _ rfl (pte_size _) rfl (pte_one _) ?_; clear _t tok1; intro w8 hH8 hB8 hz8; clear hz8; have k7 := (pte_cells [_] _ hH8).2.2.2.2.2.2.2.1; have j7 := (pte_cells [] _ hH8).2.2.2.2.2.2.2.1; rw [hS] at k7; rw [hT] at j7)
          go_ret
          exact ⟨rfl, by rw [HBB.out]; exact hBN7.trans hB8⟩
        | false =>
          have hst := HST.out hS hT
          rw [hst] at heS
          have tok1 : True := trivial
          have tok2 : True := trivial
          have tok3 : True := trivial
          go_wp2_with (first
            | (have _t := tok1; refine wpList_store_all [] _ hN7 24 (.tmp 15) (.tmp 43) rfl rfl rfl _ rfl (pte_size _) rfl (pte_one _) ?_; clear _t tok1; intro w8 hH8 hB8 hz8; clear hz8; have k7 := (pte_cells [_] _ hH8).2.2.2.2.2.2.2.1; have j7 := (pte_cells [] _ hH8).2.2.2.2.2.2.2.1; rw [hS] at k7; rw [hT] at j7)
            | (refine wpList_load_blk [_] _ hH8 24 (.tmp 14) rfl rfl rfl _ Try.underlying24 rfl (pte_size _) ?_)
            | (refine wpList_load_blk [] _ hH8 24 (.tmp 15) rfl rfl rfl _ Try.underlying24 rfl (pte_size _) ?_))
          go_ret
          exact ⟨by simp, by rw [HBB.out]; exact hBN7.trans hB8⟩
    · have hxy := HPQ.out rfl rfl
      rw [← hxy] at heq
      clear hxy
      go_wp2_with (first
        | (refine wpList_load_blk [_] _ hH3 24 (.tmp 4) rfl rfl rfl _ Try.underlying24 rfl (pte_size _) ?_)
        | (refine wpList_load_blk [] _ hH3 24 (.tmp 5) rfl rfl rfl _ Try.underlying24 rfl (pte_size _) ?_))
      refine (keeps (CV.out _) hH3).mono ?_
      rintro e w5 ⟨rfl, hH5, hB5⟩
      go_wp2_with (refine wpList_store_all [] _ (hH5.newblk w5.heap.size 24 pteZ rfl) 24 (.tmp 14) (.tmp 41) rfl rfl rfl _ rfl (pte_size _) rfl (pte_one _) ?_; intro w6 hH6 hB6 hz6; clear hz6)
      refine (keeps (CU.out _) hH6).mono ?_
      rintro e w7 ⟨rfl, hH7, hB7⟩
      have hB8 := hB3.trans (hB5.trans (((below_new (Below.refl _ _) hH5 _).trans hB6).trans hB7))
      have hN7 := hH7.newblk w7.heap.size 24 pteZ rfl
      have hBN7 := below_new hB8 hH7 (.cells pteZ 24)
      clear hB3 hB5 hB6 hB7 hB8 hH3 hH5 hH6
      cases hS : S.Bad with
      | true =>
        have tok1 : True := trivial
        go_wp2_with (have _t := tok1; refine wpList_store_all [] _ hN7 24 (.tmp 15) (.tmp 43) rfl rfl rfl _ rfl (pte_size _) rfl (pte_one _) ?_; clear _t tok1; intro w8 hH8 hB8 hz8; clear hz8; have k7 := (pte_cells [_] _ hH8).2.2.2.2.2.2.2.1; rw [hS] at k7)
        go_ret
        exact ⟨rfl, by rw [HBB.out]; exact hBN7.trans hB8⟩
      | false =>
        cases hT : T.Bad with
        | true =>
          have tok1 : True := trivial
          go_wp2_with (have _t := tok1; refine wpList_store_all [] _ hN7 24 (.tmp 15) (.tmp 43) rfl rfl rfl _ rfl (pte_size _) rfl (pte_one _) ?_; clear _t tok1; intro w8 hH8 hB8 hz8; clear hz8; have k7 := (pte_cells [_] _ hH8).2.2.2.2.2.2.2.1; have j7 := (pte_cells [] _ hH8).2.2.2.2.2.2.2.1; rw [hS] at k7; rw [hT] at j7)
          go_ret
          exact ⟨rfl, by rw [HBB.out]; exact hBN7.trans hB8⟩
        | false =>
          have hst := HST.out hS hT
          rw [hst] at heS
          have tok1 : True := trivial
          have tok2 : True := trivial
          have tok3 : True := trivial
          go_wp2_with (first
            | (have _t := tok1; refine wpList_store_all [] _ hN7 24 (.tmp 15) (.tmp 43) rfl rfl rfl _ rfl (pte_size _) rfl (pte_one _) ?_; clear _t tok1; intro w8 hH8 hB8 hz8; clear hz8; have k7 := (pte_cells [_] _ hH8).2.2.2.2.2.2.2.1; have j7 := (pte_cells [] _ hH8).2.2.2.2.2.2.2.1; rw [hS] at k7; rw [hT] at j7)
            | (refine wpList_load_blk [_] _ hH8 24 (.tmp 14) rfl rfl rfl _ Try.underlying24 rfl (pte_size _) ?_)
            | (refine wpList_load_blk [] _ hH8 24 (.tmp 15) rfl rfl rfl _ Try.underlying24 rfl (pte_size _) ?_))
          go_ret
          exact ⟨by simp, by rw [HBB.out]; exact hBN7.trans hB8⟩

theorem PteUnlike_walk (p q : PteS) (v u : Int) (w : World) (hp : (Lit.int .i64 p.Frame).wf = true) (hq : (Lit.int .i64 q.Frame).wf = true) (hv : (Lit.int .u64 v).wf = true) (hu : (Lit.int .u64 u).wf = true) :
    Calls Try.prog 7 #[.agg (pteC p), .agg (pteC q), .int .u64 v, .int .u64 u] w fun e w' => e = .returned (.bool true) ∧ Below w.heap.size w w' := by
  obtain ⟨V, rfl, hV⟩ := u64_nat hv
  obtain ⟨U, rfl, hU⟩ := u64_nat hu
  refine PteUnlike_core p q (getS V) (getS U) V U _ _ (putOk p) (putOk q) w (fun W => Put_calls p W) (fun W => Put_calls q W) (fun W => Get_calls V hV W) (fun W => Get_calls U hU W) (fun h1 h2 => ?_) (fun h1 h2 => ?_)
  · rw [if_pos h1, if_pos h2, ← put_inj h1 h2]
    rfl
  · rw [get_inj hV hU h1 h2]
    rfl

end Go.Proofs.Ytcigjchncahpaaa
