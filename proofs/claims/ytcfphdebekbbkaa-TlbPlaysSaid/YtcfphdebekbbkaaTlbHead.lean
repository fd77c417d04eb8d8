/-
  The live question of layer 9.
-/
import Derived.Test.YtcfphdebekbbkaaTlbC
namespace Go.Proofs.Ytcfphdebekbbkaa
open Go.RowKit
set_option linter.unusedVariables false
set_option linter.unusedSimpArgs false

theorem TlbNew_yes (n : Nat) (h1 : 1 ≤ n) (h2 : n ≤ 512) (w : World) (B : Nat) (X : List Asr) (hH : Has w B X) :
    Calls Try.prog 11 #[.int .i64 n] w fun e w' => ∃ b, e = .returned (.pointer (some ⟨b, 0, none⟩)) ∧ Has w' B (TlbA b n [] :: X) ∧ Below B w w' := by
  refine (TlbNew_calls n w B X hH).mono ?_
  rintro e w' (⟨h, _⟩ | ⟨b, m, hm, _, _, he, hh, hb⟩)
  · exact absurd ⟨by omega, by omega⟩ h
  · obtain rfl : n = m := by omega
    exact ⟨b, he, hh, hb⟩
theorem TlbNew_no (f : Int) (h : ¬ (1 ≤ f ∧ f ≤ 512)) (w : World) (B : Nat) (X : List Asr) (hH : Has w B X) :
    Calls Try.prog 11 #[.int .i64 f] w fun e w' => e = .returned (.pointer none) ∧ Has w' B X ∧ Below B w w' := by
  refine (TlbNew_calls f w B X hH).mono ?_
  rintro e w' (⟨_, he⟩ | ⟨b, m, hm, h1, h2, _⟩)
  · exact he
  · exact absurd ⟨by omega, by omega⟩ h

theorem srch_blk {w : World} {B b : Nat} {T : TypeId} {L : List HitS} (L1 L2 : List Asr) (hH : Has w B (L1 ++ blk b T (hitsC L).toArray :: L2)) (hl : L.length ≤ 1000) : SrcH w (some ⟨b, 0, none⟩) L := by
  refine ⟨by omega, fun _ => ⟨b, 0, rfl, (hH.blk_at L1 L2).2.2, fun j u hj => ?_⟩⟩
  rw [Nat.zero_add]
  exact hH.cell L1 L2 j (by simpa using hj)

def hitA : HitS := ⟨1, 5, 7, false, false, false, false⟩
def hitB : HitS := ⟨2, 5, 8, false, false, false, false⟩
def hitD : HitS := ⟨1, 6, 9, false, false, false, false⟩

set_option maxHeartbeats 4000000 in
set_option maxRecDepth 100000 in
theorem head_true : Does Try.prog 10 #[] [] (fun _ : Unit => .bool true) (fun _ => []) := by
  intro w B X hH
  have hH0 : Has w B X := hH
  clear hH
  go_enter Try.func10, Try.ntmps10
  go_wp2_with fail
  refine (TlbNew_yes 2 (by decide) (by decide) w B X hH0).mono ?_
  rintro e w1 ⟨t, rfl, hH1, hB1⟩
  go_wp2_with fail
  refine (TlbNew_no 0 (by decide) w1 B _ hH1).mono ?_
  rintro e w2 ⟨rfl, hH2, hB2⟩
  have hB2 := hB1.trans hB2
  clear hH1 hB1 hH0
  go_wp2_with fail
  refine (TlbNew_no 513 (by decide) w2 B _ hH2).mono ?_
  rintro e w3 ⟨rfl, hH3, hB3⟩
  have hB3 := hB2.trans hB3
  clear hH2 hB2
  have tokA : True := trivial
  go_wp2_with (first
    | (have _t := tokA; refine wpList_store_all [] _ (hH3.newblk w3.heap.size 30 hitZ rfl) 30 (.tmp 2) (.tmp 23) rfl rfl rfl (hitC hitA).toArray rfl hit_size' rfl (hitC_one _) ?_; clear _t tokA; intro w4 hH4 kk4 hz4; clear hz4; have hB4 := hB3.trans ((below_new (Below.refl _ _) hH3 _).trans kk4); clear hH3 hB3 kk4; generalize w3.heap.size = pa at *; have tokB : True := trivial)
    | (have _t := tokB; refine wpList_store_all [] _ (hH4.newblk w4.heap.size 30 hitZ rfl) 30 (.tmp 3) (.tmp 24) rfl rfl rfl (hitC hitB).toArray rfl hit_size' rfl (hitC_one _) ?_; clear _t tokB; intro w5 hH5 kk5 hz5; clear hz5; have hB5 := hB4.trans ((below_new (Below.refl _ _) hH4 _).trans kk5); clear hH4 hB4 kk5; generalize w4.heap.size = pb at *; have tokC : True := trivial)
    | (have _t := tokC; refine wpList_store_all [] _ (hH5.newblk w5.heap.size 30 hitZ rfl) 30 (.tmp 4) (.tmp 25) rfl rfl rfl (hitC hitD).toArray rfl hit_size' rfl (hitC_one _) ?_; clear _t tokC; intro w6 hH6 kk6 hz6; clear hz6; have hB6 := hB5.trans ((below_new (Below.refl _ _) hH5 _).trans kk6); clear hH5 hB5 kk6; generalize w5.heap.size = pc at *)
    | (refine wpList_load_blk [_, _] _ hH6 30 (.tmp 2) rfl rfl rfl _ Try.underlying30 rfl hit_size' ?_))
  refine (Put_calls t 2 [] hitA w6 B _ (hH6.front [_, _, _] _)).mono ?_
  rintro e w7 ⟨rfl, hH7, kk⟩
  have hB7 := hB6.trans kk
  rw [show putL 2 [] hitA = [hitA] from by kernel_rfl] at hH7
  clear kk hH6 hB6
  go_wp2_with (refine wpList_load_blk [_, _] _ hH7 30 (.tmp 3) rfl rfl rfl _ Try.underlying30 rfl hit_size' ?_)
  refine (Put_calls t 2 [hitA] hitB w7 B _ hH7).mono ?_
  rintro e w8 ⟨rfl, hH8, kk⟩
  have hB8 := hB7.trans kk
  rw [show putL 2 [hitA] hitB = [hitA, hitB] from by kernel_rfl] at hH8
  clear kk hH7 hB7
  go_wp2_with (refine wpList_load_blk [_] _ hH8 30 (.tmp 4) rfl rfl rfl _ Try.underlying30 rfl hit_size' ?_)
  refine (Put_calls t 2 [hitA, hitB] hitD w8 B _ hH8).mono ?_
  rintro e w9 ⟨rfl, hH9, kk⟩
  have hB9 := hB8.trans kk
  rw [show putL 2 [hitA, hitB] hitD = [hitB, hitD] from by kernel_rfl] at hH9
  clear kk hH8 hB8
  have cg := Get_calls t 2 [hitB, hitD] 1 5 w9 B _ hH9
  rw [show getV [hitB, hitD] 1 5 = .tuple #[.agg (hitC hit0).toArray, .bool false] from by kernel_rfl] at cg
  have CG := hid cg
  clear cg
  go_wp2_with fail
  refine CG.out.mono ?_
  rintro e w10 ⟨rfl, hH10, kk⟩
  have hB10 := hB9.trans kk
  clear kk CG hH9 hB9
  have tokA : True := trivial
  go_wp2_with (first
    | (have _t := tokA; refine wpList_store_all [] _ (hH10.newblk w10.heap.size 30 hitZ rfl) 30 (.tmp 5) (.tmp 38) rfl rfl rfl (hitC hit0).toArray rfl hit_size' rfl (hitC_one _) ?_; clear _t tokA; intro w11 hH11' kk11 hz4; clear hz4; have hH11 := hH11'.drop; have hB11 := hB10.trans ((below_new (Below.refl _ _) hH10 _).trans kk11); clear hH10 hB10 kk11 hH11'))
  have cg := Get_calls t 2 [hitB, hitD] 2 5 w11 B _ hH11
  rw [show getV [hitB, hitD] 2 5 = .tuple #[.agg (hitC hitB).toArray, .bool true] from by kernel_rfl] at cg
  have CG := hid cg
  clear cg
  refine CG.out.mono ?_
  rintro e w12 ⟨rfl, hH12, kk⟩
  have hB12 := hB11.trans kk
  clear kk CG hH11 hB11
  have tokA : True := trivial
  go_wp2_with (first
    | (have _t := tokA; refine wpList_store_all [] _ (hH12.newblk w12.heap.size 30 hitZ rfl) 30 (.tmp 7) (.tmp 43) rfl rfl rfl (hitC hitB).toArray rfl hit_size' rfl (hitC_one _) ?_; clear _t tokA; intro w13 hH13' kk13 hz4; clear hz4; have hH13 := hH13'.front [_] _; have hB13 := hB12.trans ((below_new (Below.refl _ _) hH12 _).trans kk13); clear hH12 hB12 kk13 hH13'; generalize w12.heap.size = px at *))
  refine (List_calls t 2 [hitB, hitD] w13 B _ hH13).mono ?_
  rintro e w14 ⟨v1, rfl, hH14, kk⟩
  have hB14 := hB13.trans kk
  clear kk hH13 hB13
  obtain ⟨a1, c1, rfl, _, _, _⟩ := hH14.row_form [] _
  go_wp2_with (refine wpList_load_blk [_, _, _, _] _ hH14 30 (.tmp 3) rfl rfl rfl _ Try.underlying30 rfl hit_size' ?_)
  refine (Put_calls t 2 [hitB, hitD] hitB w14 B _ (hH14.front [_] _)).mono ?_
  rintro e w15 ⟨rfl, hH15, kk⟩
  have hB15 := hB14.trans kk
  rw [show putL 2 [hitB, hitD] hitB = [hitD, hitB] from by kernel_rfl] at hH15
  clear kk hH14 hB14
  go_wp2_with fail
  refine (List_calls t 2 [hitD, hitB] w15 B _ hH15).mono ?_
  rintro e w16 ⟨v2, rfl, hH16, kk⟩
  have hB16 := hB15.trans kk
  clear kk hH15 hB15
  obtain ⟨a2, c2, rfl, _, _, _⟩ := hH16.row_form [] _
  go_wp2_with fail
  refine (Pick_calls t 2 [hitD, hitB] (-1) (by decide) w16 B _ (hH16.front [_] _)).mono ?_
  rintro e w17 ⟨rfl, hH17, kk⟩
  have hB17 := hB16.trans kk
  rw [show pickL [hitD, hitB] (-1) = [hitD] from by kernel_rfl] at hH17
  clear kk hH16 hB16
  go_wp2_with fail
  refine (Flush_calls t 2 [hitD] 1 w17 B _ hH17).mono ?_
  rintro e w18 ⟨rfl, hH18, kk⟩
  have hB18 := hB17.trans kk
  rw [show keepF 1 [hitD] = [] from by kernel_rfl] at hH18
  clear kk hH17 hB17
  have heq : ∀ W, Sem.run Try.prog (binOp .eql 30 (.agg (hitC hitB).toArray) (.agg (hitC hitB).toArray)) W = .ok (.bool true) W := fun W => by
    have h := hit_eql hitB hitB W
    rwa [show decide (hitB = hitB) = true from by decide] at h
  go_wp2_with (first
    | (refine wpList_load_blk [_, _, _] _ hH18 30 (.tmp 7) rfl rfl rfl _ Try.underlying30 rfl hit_size' ?_)
    | (refine wpList_load_blk [_, _, _, _, _] _ hH18 30 (.tmp 3) rfl rfl rfl _ Try.underlying30 rfl hit_size' ?_)
    | (refine wpList_load_blk [_, _, _, _] _ hH18 30 (.tmp 4) rfl rfl rfl _ Try.underlying30 rfl hit_size' ?_))
  have hN := hH18.newblk w18.heap.size 30 (hitsC [hitB, hitD]).toArray rfl
  have hBN := hB18.trans (below_new (Below.refl _ _) hH18 (.cells (hitsC [hitB, hitD]).toArray 30))
  have cs := Same_calls a1 (some ⟨w18.heap.size, 0, none⟩) c1 2 [hitB, hitD] [hitB, hitD] _ (srch_row [_, _, _] _ hN rfl) (srch_blk [] _ hN (by decide))
  rw [show decide ([hitB, hitD] = [hitB, hitD]) = true from by decide] at cs
  have CS := hid cs
  clear cs
  refine (keeps CS.out hN).mono ?_
  rintro e w19 ⟨rfl, hH19, kk⟩
  have hB19 := hBN.trans kk
  clear kk CS hN hBN hH18 hB18
  go_wp2_with (first
    | (refine wpList_load_blk [_, _, _, _, _, _] _ hH19 30 (.tmp 3) rfl rfl rfl _ Try.underlying30 rfl hit_size' ?_)
    | (refine wpList_load_blk [_, _, _, _, _] _ hH19 30 (.tmp 4) rfl rfl rfl _ Try.underlying30 rfl hit_size' ?_))
  have hN := hH19.newblk w19.heap.size 30 (hitsC [hitD, hitB]).toArray rfl
  have hBN := hB19.trans (below_new (Below.refl _ _) hH19 (.cells (hitsC [hitD, hitB]).toArray 30))
  have cs := Same_calls a2 (some ⟨w19.heap.size, 0, none⟩) c2 2 [hitD, hitB] [hitD, hitB] _ (srch_row [_, _, _] _ hN rfl) (srch_blk [] _ hN (by decide))
  rw [show decide ([hitD, hitB] = [hitD, hitB]) = true from by decide] at cs
  have CS := hid cs
  clear cs
  refine (keeps CS.out hN).mono ?_
  rintro e w20 ⟨rfl, hH20', kk⟩
  have hB20 := hBN.trans kk
  have hH20 := hH20'.front [_, _] _
  clear kk CS hN hBN hH19 hB19 hH20'
  go_wp2_with fail
  refine (Many_calls t 2 [] w20 B _ hH20).mono ?_
  rintro e w21 ⟨rfl, rfl⟩
  go_wp2_with fail
  refine (Pick_calls t 2 [] 3 (by decide) w20 B _ hH20).mono ?_
  rintro e w21 ⟨rfl, hH21, kk⟩
  have hB21 := hB20.trans kk
  clear kk hH20 hB20
  go_wp2_with fail
  refine (Drop_calls t 2 [] 1 6 w21 B _ hH21).mono ?_
  rintro e w22 ⟨rfl, hH22, kk⟩
  have hB22 := hB21.trans kk
  clear kk hH21 hB21
  go_wp2_with fail
  go_ret
  exact ⟨(), rfl, hH22.drop.drop.drop.drop.drop.drop.drop.drop.drop, hB22⟩

end Go.Proofs.Ytcfphdebekbbkaa
