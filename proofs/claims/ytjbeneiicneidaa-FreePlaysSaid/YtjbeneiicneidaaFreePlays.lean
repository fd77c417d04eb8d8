/-
  FreePlays: calls of a list of any frames answer as the document says; so do how many are free, and whether any one is.
-/
import Derived.Test.YtjbeneiicneidaaFreeHead
import Derived.Test.YtjbeneiicneidaaFreeArgs
import Derived.Test.YtjbeneiicneidaaFreeRef
namespace Go.Proofs.Ytjbeneiicneidaa
open Go.RowKit
set_option linter.unusedVariables false
set_option linter.unusedSimpArgs false

set_option maxHeartbeats 4000000 in
set_option maxRecDepth 100000 in
theorem FreePlays_walk (first many : Int) (ar : Option Addr) (len cap : Nat) (l : List (Bool × Int)) (p : Int) (w : World) (h1 : (Lit.int .i64 first).wf = true) (h2 : (Lit.int .i64 many).wf = true) (hA : ArgRow w 2 ar len (l.flatMap opC)) (hl : ∀ x ∈ l, opOk x) (hp : (Lit.int .i64 p).wf = true) :
    Calls Try.prog 3 #[.int .i64 first, .int .i64 many, .slice ar len cap, .int .i64 p] w fun e w' => e = .returned (.bool true) ∧ Below w.heap.size w w' := by
  obtain ⟨hl1, hl2, hl3⟩ := hA
  have hl4 : l.length = len := by rw [flat_length opC 2 (fun _ => rfl)] at hl1; omega
  clear hl1 h1 h2
  have hH0 : Has w w.heap.size [] := Has.nil (Nat.le_refl _)
  have HL := hid hl4
  clear hl4
  by_cases hbig : 600 < len
  · go_enter Try.func3, Try.ntmps3
    go_wp2_with fail
    refine (head_true w _ [] hH0).mono ?_
    rintro e w1 ⟨_, rfl, hH1, hB1⟩
    go_wp2_with fail
    go_ret
    exact ⟨rfl, hB1⟩
  · by_cases hok : 0 ≤ first ∧ 0 ≤ many ∧ first ≤ 256 ∧ many ≤ 256 - first
    · have cF := FreeNew_ok first many hok.1 hok.2.1 hok.2.2.1 hok.2.2.2
      have cR := RefNew_ok first many hok.1 hok.2.1 hok.2.2.1 hok.2.2.2
      clear hok
      go_enter Try.func3, Try.ntmps3
      go_wp2_with fail
      refine (head_true w _ [] hH0).mono ?_
      rintro e w1 ⟨_, rfl, hH1, hB1⟩
      go_wp2_with fail
      refine (cF.mk hH1).mono ?_
      rintro e w2 ⟨x, rfl, hH2, hB2⟩
      go_wp2_with fail
      refine (cR.mk hH2).mono ?_
      rintro e w3 ⟨r, rfl, hH3, hB3⟩
      have hB := hB1.trans (hB2.trans hB3)
      clear hH0 hH1 hB1 hB2 hH2 hB3 cF cR
      go_wp2_with fail
      go_loopw [12, 13, 14, 15, 16, 17] (fun i _ _ _ _ _ wr => ∃ (j : Nat) (F : List Int), j ≤ len ∧ i = .int .i64 j ∧ Has wr w.heap.size [RefA r first many F, FreeA x first many F] ∧ Below w.heap.size w wr) (fun i _ _ _ _ _ _ => len - (intOf i).toNat)
      case atStart => exact ⟨0, _, by omega, rfl, hH3, hB⟩
      case round =>
        obtain ⟨j, F, hj, rfl, hHr, hBr⟩ := hrel
        clear hH3 hB
        by_cases hlt : j < len
        · obtain ⟨ba, oa, rfl, hba, hca⟩ := hl3 (by omega)
          have HL2 := HL.out
          obtain ⟨⟨g, f⟩, hz⟩ : ∃ z, l[j]? = some z := ⟨l[j], by simp [HL2, hlt]⟩
          have hw : (Lit.int .i64 f).wf = true := hl _ (List.mem_of_getElem? hz)
          have HCA := hid hca
          have HZ := hid hz
          clear HL2 hca hz
          cases g with
          | true =>
            have k0 := ArgRow.elem (f := opC) (size := 2) (fun _ => rfl) hba HCA.out hBr j 0 _ HZ.out (u := .bool true) rfl
            rw [Nat.add_zero] at k0
            have k1 := ArgRow.elem (f := opC) (size := 2) (fun _ => rfl) hba HCA.out hBr j 1 _ HZ.out (u := .int .i64 f) rfl
            go_wp2_with fail
            refine ((FreeGive x first many f F hw).at [_] [] hHr).mono ?_
            rintro e w4 ⟨_, rfl, hH4, hB4⟩
            have hBr4 := hBr.trans hB4
            have k2 := ArgRow.elem (f := opC) (size := 2) (fun _ => rfl) hba HCA.out hBr4 j 1 _ HZ.out (u := .int .i64 f) rfl
            go_wp2_with fail
            refine ((RefGive r first many f F).at [] _ hH4).mono ?_
            rintro e w5 ⟨_, rfl, hH5, hB5⟩
            go_wp2_with fail
            refine ((FreeLeft x first many _).at [_] [] hH5).mono ?_
            rintro e w6 ⟨_, rfl, hH6, hB6⟩
            go_wp2_with fail
            refine ((RefLeft r first many _).at [] _ hH6).mono ?_
            rintro e w7 ⟨_, rfl, hH7, hB7⟩
            go_wp2_with fail
            refine ((FreeHas x first many p _ hp).at [_] [] hH7).mono ?_
            rintro e w8 ⟨_, rfl, hH8, hB8⟩
            go_wp2_with fail
            refine ((RefHas r first many p _).at [] _ hH8).mono ?_
            rintro e w9 ⟨_, rfl, hH9, hB9⟩
            go_wp2_with fail
            go_roundw
            case rel => exact ⟨j + 1, _, by omega, by go_num, hH9, hBr4.trans (hB5.trans (hB6.trans (hB7.trans (hB8.trans hB9))))⟩
            case measure => simp [intOf] <;> omega
          | false =>
            have k0 := ArgRow.elem (f := opC) (size := 2) (fun _ => rfl) hba HCA.out hBr j 0 _ HZ.out (u := .bool false) rfl
            rw [Nat.add_zero] at k0
            go_wp2_with fail
            refine ((FreeTake x first many F).at [_] [] hHr).mono ?_
            rintro e w4 ⟨_, rfl, hH4, hB4⟩
            go_wp2_with fail
            refine ((RefTake r first many F).at [] _ hH4).mono ?_
            rintro e w5 ⟨_, rfl, hH5, hB5⟩
            go_wp2_with fail
            refine ((FreeLeft x first many _).at [_] [] hH5).mono ?_
            rintro e w6 ⟨_, rfl, hH6, hB6⟩
            go_wp2_with fail
            refine ((RefLeft r first many _).at [] _ hH6).mono ?_
            rintro e w7 ⟨_, rfl, hH7, hB7⟩
            go_wp2_with fail
            refine ((FreeHas x first many p _ hp).at [_] [] hH7).mono ?_
            rintro e w8 ⟨_, rfl, hH8, hB8⟩
            go_wp2_with fail
            refine ((RefHas r first many p _).at [] _ hH8).mono ?_
            rintro e w9 ⟨_, rfl, hH9, hB9⟩
            go_wp2_with fail
            go_roundw
            case rel => exact ⟨j + 1, _, by omega, by go_num, hH9, hBr.trans (hB4.trans (hB5.trans (hB6.trans (hB7.trans (hB8.trans hB9)))))⟩
            case measure => simp [intOf] <;> omega
        · go_wp2_with fail
          go_ret
          exact ⟨rfl, hBr⟩
    · have hno : first < 0 ∨ many < 0 ∨ 256 < first ∨ 256 - first < many := by omega
      have HN := hid hno
      clear hok hno
      go_enter Try.func3, Try.ntmps3
      go_wp2_with fail
      refine (head_true w _ [] hH0).mono ?_
      rintro e w1 ⟨_, rfl, hH1, hB1⟩
      go_wp2_with fail
      refine (FreeNew_no first many HN.out _).mono ?_
      rintro e w2 ⟨rfl, rfl⟩
      go_wp2_with fail
      refine (RefNew_no first many HN.out _).mono ?_
      rintro e w2 ⟨rfl, rfl⟩
      go_wp2_with fail
      go_ret
      exact ⟨rfl, hB1⟩

end Go.Proofs.Ytjbeneiicneidaa
