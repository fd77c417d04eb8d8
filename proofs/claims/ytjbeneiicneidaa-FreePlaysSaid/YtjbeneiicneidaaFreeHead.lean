/-
  The live question of the laws of layer 2 is answered with yes.
-/
import Derived.Test.YtjbeneiicneidaaFreeB
namespace Go.Proofs.Ytjbeneiicneidaa
open Go.RowKit
set_option linter.unusedVariables false
set_option linter.unusedSimpArgs false

theorem below_all {w w1 w2 : World} {B : Nat} (h1 : Below B w w1) (h2 : Below B w1 w2) : Below B w w2 := h1.trans h2

set_option maxHeartbeats 1000000 in
set_option maxRecDepth 100000 in
theorem head_true : Does Try.prog 9 #[] [] (fun _ : Unit => .bool true) (fun _ => []) := by
  intro w B X hH
  have hH0 : Has w B X := hH
  clear hH
  go_enter Try.func9, Try.ntmps9
  go_wp2_with fail
  refine ((show Does Try.prog 10 #[.int .i64 4, .int .i64 3] [] (fun b : Nat => .pointer (some ⟨b, 0, none⟩)) (fun b => [FreeA b 4 3 [6, 5, 4]]) from FreeNew_ok 4 3 (by omega) (by omega) (by omega) (by omega)).mk hH0).mono ?_
  rintro e w1 ⟨b, rfl, hH1, hB1⟩
  go_wp2_with fail
  refine (FreeNew_no (-1) 2 (by omega) _).mono ?_
  rintro e w2 ⟨rfl, rfl⟩
  go_wp2_with fail
  refine (FreeNew_no 200 57 (by omega) _).mono ?_
  rintro e w2 ⟨rfl, rfl⟩
  go_wp2_with fail
  refine ((show Does Try.prog 14 #[.pointer (some ⟨b, 0, none⟩)] [FreeA b 4 3 [6, 5, 4]] (fun _ : Unit => .tuple #[.int .i64 4, .bool true]) (fun _ => [FreeA b 4 3 [6, 5]]) from FreeTake b 4 3 [6, 5, 4]).at [] X hH1).mono ?_
  rintro e w2 ⟨_, rfl, hH2, hB2⟩
  go_wp2_with fail
  refine ((show Does Try.prog 14 #[.pointer (some ⟨b, 0, none⟩)] [FreeA b 4 3 [6, 5]] (fun _ : Unit => .tuple #[.int .i64 5, .bool true]) (fun _ => [FreeA b 4 3 [6]]) from FreeTake b 4 3 [6, 5]).at [] X hH2).mono ?_
  rintro e w3 ⟨_, rfl, hH3, hB3⟩
  go_wp2_with fail
  refine ((show Does Try.prog 12 #[.pointer (some ⟨b, 0, none⟩), .int .i64 4] [FreeA b 4 3 [6]] (fun _ : Unit => .bool true) (fun _ => [FreeA b 4 3 [6, 4]]) from FreeGive b 4 3 4 [6] rfl).at [] X hH3).mono ?_
  rintro e w4 ⟨_, rfl, hH4, hB4⟩
  go_wp2_with fail
  refine ((show Does Try.prog 12 #[.pointer (some ⟨b, 0, none⟩), .int .i64 4] [FreeA b 4 3 [6, 4]] (fun _ : Unit => .bool false) (fun _ => [FreeA b 4 3 [6, 4]]) from FreeGive b 4 3 4 [6, 4] rfl).at [] X hH4).mono ?_
  rintro e w5 ⟨_, rfl, hH5, hB5⟩
  go_wp2_with fail
  refine ((show Does Try.prog 12 #[.pointer (some ⟨b, 0, none⟩), .int .i64 6] [FreeA b 4 3 [6, 4]] (fun _ : Unit => .bool false) (fun _ => [FreeA b 4 3 [6, 4]]) from FreeGive b 4 3 6 [6, 4] rfl).at [] X hH5).mono ?_
  rintro e w6 ⟨_, rfl, hH6, hB6⟩
  go_wp2_with fail
  refine ((show Does Try.prog 14 #[.pointer (some ⟨b, 0, none⟩)] [FreeA b 4 3 [6, 4]] (fun _ : Unit => .tuple #[.int .i64 4, .bool true]) (fun _ => [FreeA b 4 3 [6]]) from FreeTake b 4 3 [6, 4]).at [] X hH6).mono ?_
  rintro e w7 ⟨_, rfl, hH7, hB7⟩
  go_wp2_with fail
  refine ((show Does Try.prog 14 #[.pointer (some ⟨b, 0, none⟩)] [FreeA b 4 3 [6]] (fun _ : Unit => .tuple #[.int .i64 6, .bool true]) (fun _ => [FreeA b 4 3 []]) from FreeTake b 4 3 [6]).at [] X hH7).mono ?_
  rintro e w8 ⟨_, rfl, hH8, hB8⟩
  go_wp2_with fail
  refine ((show Does Try.prog 14 #[.pointer (some ⟨b, 0, none⟩)] [FreeA b 4 3 []] (fun _ : Unit => .tuple #[.int .i64 0, .bool false]) (fun _ => [FreeA b 4 3 []]) from FreeTake b 4 3 []).at [] X hH8).mono ?_
  rintro e w9 ⟨_, rfl, hH9, hB9⟩
  go_wp2_with fail
  refine ((show Does Try.prog 16 #[.pointer (some ⟨b, 0, none⟩)] [FreeA b 4 3 []] (fun _ : Unit => .int .i64 0) (fun _ => [FreeA b 4 3 []]) from FreeLeft b 4 3 []).at [] X hH9).mono ?_
  rintro e w10 ⟨_, rfl, hH10, hB10⟩
  go_wp2_with fail
  refine ((show Does Try.prog 18 #[.pointer (some ⟨b, 0, none⟩), .int .i64 4] [FreeA b 4 3 []] (fun _ : Unit => .bool false) (fun _ => [FreeA b 4 3 []]) from FreeHas b 4 3 4 [] rfl).at [] X hH10).mono ?_
  rintro e w11 ⟨_, rfl, hH11, hB11⟩
  go_wp2_with fail
  refine ((show Does Try.prog 10 #[.int .i64 0, .int .i64 0] [] (fun b : Nat => .pointer (some ⟨b, 0, none⟩)) (fun b => [FreeA b 0 0 []]) from FreeNew_ok 0 0 (by omega) (by omega) (by omega) (by omega)).mk hH11).mono ?_
  rintro e w12 ⟨c, rfl, hH12, hB12⟩
  go_wp2_with fail
  refine ((show Does Try.prog 16 #[.pointer (some ⟨c, 0, none⟩)] [FreeA c 0 0 []] (fun _ : Unit => .int .i64 0) (fun _ => [FreeA c 0 0 []]) from FreeLeft c 0 0 []).at [] _ hH12).mono ?_
  rintro e w13 ⟨_, rfl, hH13, hB13⟩
  go_wp2_with fail
  go_ret
  exact ⟨(), rfl, hH13.drop.drop, hB1.trans (hB2.trans (hB3.trans (hB4.trans (hB5.trans (hB6.trans (hB7.trans (hB8.trans (hB9.trans (hB10.trans (hB11.trans (hB12.trans hB13)))))))))))⟩

end Go.Proofs.Ytjbeneiicneidaa
