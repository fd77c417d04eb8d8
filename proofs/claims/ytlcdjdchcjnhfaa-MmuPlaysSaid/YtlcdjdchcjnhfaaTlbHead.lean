/-
  The live question of layer 9.
-/
import Derived.Test.YtlcdjdchcjnhfaaTlbC
namespace Go.Proofs.Ytlcdjdchcjnhfaa
open Go.RowKit
set_option linter.unusedVariables false
set_option linter.unusedSimpArgs false

theorem TlbNew_yes (n : Nat) (h1 : 1 ≤ n) (h2 : n ≤ 512) (w : World) (B : Nat) (X : List Asr) (hH : Has w B X) :
    Calls Try.prog 12 #[.int .i64 n] w fun e w' => ∃ b, e = .returned (.pointer (some ⟨b, 0, none⟩)) ∧ Has w' B (TlbA b n [] :: X) ∧ Below B w w' := by
  refine (TlbNew_calls n w B X hH).mono ?_
  rintro e w' (⟨h, _⟩ | ⟨b, m, hm, _, _, he, hh, hb⟩)
  · exact absurd ⟨by omega, by omega⟩ h
  · obtain rfl : n = m := by omega
    exact ⟨b, he, hh, hb⟩
theorem TlbNew_no (f : Int) (h : ¬ (1 ≤ f ∧ f ≤ 512)) (w : World) (B : Nat) (X : List Asr) (hH : Has w B X) :
    Calls Try.prog 12 #[.int .i64 f] w fun e w' => e = .returned (.pointer none) ∧ Has w' B X ∧ Below B w w' := by
  refine (TlbNew_calls f w B X hH).mono ?_
  rintro e w' (⟨_, he⟩ | ⟨b, m, hm, h1, h2, _⟩)
  · exact he
  · exact absurd ⟨by omega, by omega⟩ h

theorem srch_blk {w : World} {B b : Nat} {T : TypeId} {L : List HitS} (L1 L2 : List Asr) (hH : Has w B (L1 ++ blk b T (hitsC L).toArray :: L2)) (hl : L.length ≤ 1000) : SrcH w (some ⟨b, 0, none⟩) L := by
  refine ⟨by omega, fun _ => ⟨b, 0, rfl, (hH.blk_at L1 L2).2.2, fun j u hj => ?_⟩⟩
  rw [Nat.zero_add]
  exact hH.cell L1 L2 j (by simpa using hj)

def hitA : HitS := ⟨1, 5, 7, false, false, false, false⟩
def hitB : HitS := ⟨2, 5, 8, false, false, false, false⟩
def hitD : HitS := ⟨1, 6, 9, false, false, false, false⟩

end Go.Proofs.Ytlcdjdchcjnhfaa
