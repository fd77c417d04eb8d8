/-
  The live question of layer 15.
-/
import Derived.Test.YtlcdjdchcjnhfaaMmuFind
import Derived.Test.YtlcdjdchcjnhfaaMmuArgs
import Derived.Test.YtlcdjdchcjnhfaaTlbHead
namespace Go.Proofs.Ytlcdjdchcjnhfaa
open Go.RowKit
set_option linter.unusedVariables false
set_option linter.unusedSimpArgs false

theorem right_eq2 (r s : RightS) (w : World) : Sem.run Try.prog (binOp .eql 38 (.agg #[.bool r.W, .bool r.U, .bool r.X]) (.agg #[.bool s.W, .bool s.U, .bool s.X])) w = .ok (.bool (decide (r = s))) w := by
  rw [run_eql_struct, right_eql 9998]
  obtain ⟨a, b, c⟩ := r
  obtain ⟨x, y, z⟩ := s
  simp [Result.andThen]

def wF : Option (Int × RightS) → Int
  | some (f, _) => f
  | none => 0
def wR : Option (Int × RightS) → RightS
  | some (_, r) => r
  | none => rNone
theorem walkV_eq (o : Option (Int × RightS)) : walkV o = .tuple #[.int .i64 (wF o), .agg (rightC (wR o)).toArray, .bool o.isSome] := by
  rcases o with _ | ⟨f, r⟩ <;> rfl
theorem Walk3 (mb tb hb n : Nat) (W : List Int) (root page : Int) (hok : okW W) {o : Option (Int × RightS)} {f : Int} {r : RightS} {i : Bool} (hx : walkS W n page 3 root rAll = o) (hf : wF o = f) (hr : wR o = r) (hi : o.isSome = i) (w : World) (B : Nat) (X : List Asr) (hH : Has w B (mmuB mb tb hb :: MemA hb n W :: X)) :
    Calls Try.prog 16 #[.pointer (some ⟨mb, 0, none⟩), .int .i64 root, .int .i64 page] w fun e w' => e = .returned (.tuple #[.int .i64 f, .agg (rightC r).toArray, .bool i]) ∧ Has w' B (mmuB mb tb hb :: MemA hb n W :: X) ∧ Below B w w' := by
  have h := Walk_calls mb tb hb n W root page hok w B X hH
  rw [hx, walkV_eq, hf, hr, hi] at h
  exact h
theorem Access2 (mb tb hb n N : Nat) (W : List Int) (L : List HitS) (root a page kind : Int) (user : Bool) (hok : okW W) {f : Int} {b : Bool} {M : List HitS} (hx : accS N L (walkS W n (page % 512) 3 root rAll) a (page % 512) kind user = ((f, b), M)) (w : World) (B : Nat) (X : List Asr) (hH : Has w B (mmuB mb tb hb :: MemA hb n W :: TlbA tb N L :: X)) :
    Calls Try.prog 14 #[.pointer (some ⟨mb, 0, none⟩), .int .i64 root, .int .i64 a, .int .i64 page, .int .i64 kind, .bool user] w fun e w' => e = .returned (.tuple #[.int .i64 f, .bool b]) ∧ Has w' B (mmuB mb tb hb :: MemA hb n W :: TlbA tb N M :: X) ∧ Below B w w' := by
  have h := Access_calls mb tb hb n N W L root a page kind user hok w B X hH
  rw [hx] at h
  exact h
theorem Find2 (mb tb hb n N : Nat) (W : List Int) (L : List HitS) (root a page : Int) (hok : okW W) {b : Bool} {M : List HitS} (hx : findS N L (walkS W n (page % 512) 3 root rAll) a (page % 512) = (b, M)) (w : World) (B : Nat) (X : List Asr) (hH : Has w B (mmuB mb tb hb :: MemA hb n W :: TlbA tb N L :: X)) :
    Calls Try.prog 19 #[.pointer (some ⟨mb, 0, none⟩), .int .i64 root, .int .i64 a, .int .i64 page] w fun e w' => e = .returned (.bool b) ∧ Has w' B (mmuB mb tb hb :: MemA hb n W :: TlbA tb N M :: X) ∧ Below B w w' := by
  have h := Find_calls mb tb hb n N W L root a page hok w B X hH
  rw [hx] at h
  exact h

theorem argrow_blk {w : World} {B b : Nat} {T : TypeId} {cs : List Value} {len size : Nat} (L1 L2 : List Asr) (hH : Has w B (L1 ++ blk b T cs.toArray :: L2)) (hlc : cs.length = len * size) (hl : len ≤ 1000) : ArgRow w size (some ⟨b, 0, none⟩) len cs := by
  refine ⟨hlc, by omega, fun _ => ⟨b, 0, rfl, (hH.blk_at L1 L2).2.2, fun j u hj => ?_⟩⟩
  rw [Nat.zero_add]
  exact hH.cell L1 L2 j (by simpa using hj)
theorem infoPut : (Try.prog.info? 36).map (fun i => (i.zero, i.size, i.bytes)) = some (some (.agg #[.int .i64 0, .int .i64 0, .int .u64 0]), 3, 24) := by kernel_rfl
theorem infoRight : (Try.prog.info? 38).map (fun i => (i.zero, i.size, i.bytes)) = some (some (.agg #[.bool false, .bool false, .bool false]), 3, 3) := by kernel_rfl

def headL : List PutS := [⟨1, 0, 8199⟩, ⟨2, 1, 12293⟩, ⟨3, 5, 36867⟩]
def headH : HitS := ⟨2, 13, 9, false, false, true, false⟩
def headR : RightS := ⟨false, false, true⟩
theorem headOk : ∀ x ∈ headL, PutOk x := by
  intro x hx
  simp [headL] at hx
  rcases hx with rfl | rfl | rfl <;> exact ⟨by decide, by decide, by decide⟩
theorem hw1 : walkS (madeW headL) 16 13 3 1 rAll = some (9, headR) := by kernel_rfl
theorem hw2 : walkS (madeW headL) 16 14 3 1 rAll = none := by kernel_rfl
theorem ha1 : accS 4 [] (walkS (madeW headL) 16 (13 % 512) 3 1 rAll) 2 (13 % 512) 0 false = ((9, true), [headH]) := by kernel_rfl
theorem ha2 : accS 4 [headH] (walkS (madeW headL) 16 (13 % 512) 3 1 rAll) 2 (13 % 512) 0 true = ((0, false), []) := by kernel_rfl
theorem hf1 : findS 4 [] (walkS (madeW headL) 16 (13 % 512) 3 1 rAll) 2 (13 % 512) = (true, [headH]) := by kernel_rfl
theorem hf2 : findS 4 [headH] (walkS (madeW headL) 16 (13 % 512) 3 1 rAll) 2 (13 % 512) = (false, [headH]) := by kernel_rfl
def headV : List Int := setW (madeW headL) 16 3 5 0
theorem ha3 : accS 4 [headH] (walkS headV 16 (13 % 512) 3 1 rAll) 2 (13 % 512) 2 false = ((9, true), [headH]) := by kernel_rfl
theorem ha4 : accS 4 [headH] (walkS headV 16 (13 % 512) 3 1 rAll) 3 (13 % 512) 0 false = ((0, false), [headH]) := by kernel_rfl

set_option maxHeartbeats 4000000 in
set_option maxRecDepth 100000 in
theorem head_true : Does Try.prog 10 #[] [] (fun _ : Unit => .bool true) (fun _ => []) := by
  intro w B X hH
  have hH0 : Has w B X := hH
  clear hH
  obtain ⟨p0, hp0, pz0, pz1, pz2⟩ := info_parts infoPut
  obtain ⟨r0, hr0, rz0, rz1, rz2⟩ := info_parts infoRight
  have hH1 := hH0.newblk w.heap.size 36 (headL.flatMap putC).toArray rfl
  have hB1 := below_new (Below.refl B w) hH0 (.cells (headL.flatMap putC).toArray 36)
  have cm := Made_calls _ 3 headL _ _ (argrow_blk [] _ hH1 rfl (by decide)) (Below.refl _ _) B _ hH1.drop
  have CM := hid cm
  have hok := okW_made headOk
  have HOK := hid hok
  have hokV : okW headV := okW_set hok 16 3 5 0 (by decide)
  have HOKV := hid hokV
  clear cm hH1 hok hokV
  go_enter Try.func10, Try.ntmps10
  go_wp2_with fail
  refine CM.out.mono ?_
  rintro e w2 ⟨hb, rfl, hH2, hB2⟩
  have hB2 := hB1.trans hB2
  clear CM hH0 hB1
  obtain ⟨W, hW⟩ : ∃ W, madeW headL = W := ⟨_, rfl⟩
  obtain ⟨V, hV⟩ : ∃ V, headV = V := ⟨_, rfl⟩
  have h1 := hw1
  have h2 := hw2
  have h3 := ha1
  have h4 := ha2
  have h5 := hf1
  have h6 := hf2
  have h7 := ha3
  have h8 := ha4
  have h9 : setW W 16 3 5 0 = V := by rw [← hW, ← hV]; rfl
  rw [hW] at hH2 HOK h1 h2 h3 h4 h5 h6
  rw [hV] at HOKV h7 h8
  have T1 := hid h1
  have T2 := hid h2
  have T3 := hid h3
  have T4 := hid h4
  have T5 := hid h5
  have T6 := hid h6
  have T7 := hid h7
  have T8 := hid h8
  have T9 := hid h9
  clear h1 h2 h3 h4 h5 h6 h7 h8 h9 hW hV
  go_wp2_with fail
  refine (TlbNew_yes 4 (by decide) (by decide) w2 B _ hH2).mono ?_
  rintro e w3 ⟨tb, rfl, hH3, hB3⟩
  have hB3 := hB2.trans hB3
  clear hH2 hB2
  go_wp2_with fail
  refine (MmuNew_calls tb hb w3 B _ hH3).mono ?_
  rintro e w4 ⟨mb, rfl, hH4, hB4⟩
  have hB4 := hB3.trans hB4
  have hH4 := hH4.front [_, _] _
  have hH4 := hH4.front [_] _
  clear hH3 hB3
  go_wp2_with fail
  refine (Walk3 mb tb hb 16 W 1 13 HOK.out T1.out rfl rfl rfl w4 B _ hH4).mono ?_
  rintro e w5 ⟨rfl, hH5, hB5⟩
  have hB5 := hB4.trans hB5
  clear hH4 hB4
  obtain ⟨ra, hra⟩ : ∃ ra, w5.heap.size = ra := ⟨_, rfl⟩
  have tok1 : True := trivial
  go_wp2_with (have _t := tok1; refine wpList_store_all [] _ (hH5.newblk ra 38 #[.bool false, .bool false, .bool false] hra) 38 (.tmp 5) (.tmp 42) rfl rfl rfl (rightC headR).toArray rfl right_size rfl (rightC_one _) ?_; clear _t tok1; intro w6 hH6 hB6' hz6; clear hz6; have hB6 := hB5.trans ((below_new (Below.refl _ _) hH5 _).trans hB6'); clear hB6' hB5 hH5)
  have hH6 := ((hH6.front [_] _).front [_, _] _).front [_] _
  refine (Walk3 mb tb hb 16 W 1 14 HOK.out T2.out rfl rfl rfl w6 B _ hH6).mono ?_
  rintro e w7 ⟨rfl, hH7, hB7⟩
  have hB7 := hB6.trans hB7
  clear hH6 hB6 hra
  obtain ⟨rb, hrb⟩ : ∃ rb, w7.heap.size = rb := ⟨_, rfl⟩
  have tok1 : True := trivial
  go_wp2_with (have _t := tok1; refine wpList_store_all [] _ (hH7.newblk rb 38 #[.bool false, .bool false, .bool false] hrb) 38 (.tmp 8) (.tmp 48) rfl rfl rfl (rightC rNone).toArray rfl right_size rfl (rightC_one _) ?_; clear _t tok1; intro w8 hH8' hB8' hz8; clear hz8; have hH8 := hH8'.drop; have hB8 := hB7.trans ((below_new (Below.refl _ _) hH7 _).trans hB8'); clear hB8' hB7 hH7 hH8')
  clear hrb
  have hH8 := (((hH8.front [_, _, _] _).front [_] _).front [_, _] _).front [_] _
  go_wp2_with fail
  refine (Access2 mb tb hb 16 4 W [] 1 2 13 0 false HOK.out T3.out w8 B _ hH8).mono ?_
  rintro e w9 ⟨rfl, hH9, hB9⟩
  have hB9 := hB8.trans hB9
  clear hH8 hB8
  go_wp2_with fail
  refine (Access2 mb tb hb 16 4 W [headH] 1 2 13 0 true HOK.out T4.out w9 B _ hH9).mono ?_
  rintro e w10 ⟨rfl, hH10, hB10⟩
  have hB10 := hB9.trans hB10
  clear hH9 hB9
  go_wp2_with fail
  refine (TMany_calls tb 4 [] w10 B _ (hH10.front [_, _] _)).mono ?_
  rintro e w' ⟨rfl, rfl⟩
  go_wp2_with fail
  refine (Find2 mb tb hb 16 4 W [] 1 2 13 HOK.out T5.out w10 B _ hH10).mono ?_
  rintro e w11 ⟨rfl, hH11, hB11⟩
  have hB11 := hB10.trans hB11
  clear hH10 hB10
  go_wp2_with fail
  refine (Find2 mb tb hb 16 4 W [headH] 1 2 13 HOK.out T6.out w11 B _ hH11).mono ?_
  rintro e w12 ⟨rfl, hH12, hB12⟩
  have hB12 := hB11.trans hB12
  clear hH11 hB11
  go_wp2_with fail
  refine (Set_calls hb 16 W 3 5 0 w12 B _ (hH12.front [_] _)).mono ?_
  rintro e w13 ⟨rfl, hH13', hB13⟩
  rw [T9.out] at hH13'
  have hH13 := hH13'.front [_] _
  have hB13 := hB12.trans hB13
  clear hH13' hH12 hB12
  go_wp2_with fail
  refine (Access2 mb tb hb 16 4 V [headH] 1 2 13 2 false HOKV.out T7.out w13 B _ hH13).mono ?_
  rintro e w14 ⟨rfl, hH14, hB14⟩
  have hB14 := hB13.trans hB14
  clear hH13 hB13
  go_wp2_with fail
  refine (Access2 mb tb hb 16 4 V [headH] 1 3 13 0 false HOKV.out T8.out w14 B _ hH14).mono ?_
  rintro e w15 ⟨rfl, hH15, hB15⟩
  have hB15 := hB14.trans hB15
  clear hH14 hB14
  have d0 := Has.cell [_, _, _] _ hH15 0 (v := .bool false) rfl
  have d1 := Has.cell [_, _, _] _ hH15 1 (v := .bool false) rfl
  have d2 := Has.cell [_, _, _] _ hH15 2 (v := .bool true) rfl
  have req : ∀ u, Sem.run Try.prog (binOp .eql 38 (.agg #[.bool false, .bool false, .bool true]) (.agg #[.bool false, .bool false, .bool true])) u = .ok (.bool true) u := fun u => right_eq2 headR headR u
  go_wp2_with fail
  go_ret
  exact ⟨(), rfl, hH15.drop.drop.drop.drop, hB15⟩

end Go.Proofs.Ytlcdjdchcjnhfaa
