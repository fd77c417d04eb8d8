/-
  The live question of layer 14.
-/
import Derived.Test.YteeapkndappnoaaStoSame
namespace Go.Proofs.Yteeapkndappnoaa
open Go.RowKit
set_option linter.unusedVariables false
set_option linter.unusedSimpArgs false

/-! ### calls whose answers are known -/
section
variable (sb hb n : Nat) (first many : Int) (S : StS) (w : World) (B : Nat) (X : List Asr)
theorem MakeIs (k : KeyS) (v : Int) (b : Bool) (T : StS) (hv : makeV S k = v) (h1 : makeB S k = b) (hT : makeS n S k = T) (hH : Has w B (staL sb hb n first many S X)) :
    Calls Try.prog 21 #[.pointer (some ⟨sb, 0, none⟩), .agg (keyC k)] w fun e w' => e = .returned (.tuple #[.int .i64 v, .bool b]) ∧ Has w' B (staL sb hb n first many T X) ∧ Below B w w' := by
  subst hv h1 hT
  exact Make_calls sb hb n first many S k w B X hH
theorem ChildIs (f i c : Int) (r : Bool × Bool × Bool) (b : Bool) (T : StS) (h1 : childB S f i c = b) (hT : childS n S f i c r = T) (hH : Has w B (staL sb hb n first many S X)) :
    Calls Try.prog 44 #[.pointer (some ⟨sb, 0, none⟩), .int .i64 f, .int .i64 i, .int .i64 c, .agg (rArr r)] w fun e w' => e = .returned (.bool b) ∧ Has w' B (staL sb hb n first many T X) ∧ Below B w w' := by
  subst h1 hT
  exact Child_calls sb hb n first many S f i c r w B X hH
theorem LeafIs (f i g h : Int) (r : Bool × Bool × Bool) (b : Bool) (T : StS) (h1 : leafB n S f i h = b) (hT : leafS n S f i g h r = T) (hH : Has w B (staL sb hb n first many S X)) :
    Calls Try.prog 45 #[.pointer (some ⟨sb, 0, none⟩), .int .i64 f, .int .i64 i, .int .i64 g, .int .i64 h, .agg (rArr r)] w fun e w' => e = .returned (.bool b) ∧ Has w' B (staL sb hb n first many T X) ∧ Below B w w' := by
  subst h1 hT
  exact Leaf_calls sb hb n first many S f i g h r w B X hH
theorem ClearIs (f i : Int) (b : Bool) (T : StS) (h1 : clearB S f i = b) (hT : clearS n S f i = T) (hH : Has w B (staL sb hb n first many S X)) :
    Calls Try.prog 30 #[.pointer (some ⟨sb, 0, none⟩), .int .i64 f, .int .i64 i] w fun e w' => e = .returned (.bool b) ∧ Has w' B (staL sb hb n first many T X) ∧ Below B w w' := by
  subst h1 hT
  exact Clear_calls sb hb n first many S f i w B X hH
theorem DropIs (f : Int) (b : Bool) (T : StS) (hw : (Lit.int .i64 f).wf = true) (h1 : dropB S f = b) (hT : dropS n S f = T) (hH : Has w B (staL sb hb n first many S X)) :
    Calls Try.prog 20 #[.pointer (some ⟨sb, 0, none⟩), .int .i64 f] w fun e w' => e = .returned (.bool b) ∧ Has w' B (staL sb hb n first many T X) ∧ Below B w w' := by
  subst h1 hT
  exact Drop_calls sb hb n first many S f hw w B X hH
theorem SlotIs (f i : Int) (y : SlotS) (b : Bool) (hy : (slotAt S.ps f i).getD slotZ = y) (h1 : (slotAt S.ps f i).isSome = b) (hH : Has w B (staL sb hb n first many S X)) :
    Calls Try.prog 16 #[.pointer (some ⟨sb, 0, none⟩), .int .i64 f, .int .i64 i] w fun e w' => e = .returned (.tuple #[.agg (slotC y), .bool b]) ∧ Has w' B (staL sb hb n first many S X) ∧ Below B w w' := by
  subst hy h1
  exact Slot_calls sb hb n first many S.F S.ps f i w B _ hH
theorem LeftIs (k : Int) (hk : (S.F.length : Int) = k) (hH : Has w B (staL sb hb n first many S X)) :
    Calls Try.prog 23 #[.pointer (some ⟨sb, 0, none⟩)] w fun e w' => e = .returned (.int .i64 k) ∧ Has w' B (staL sb hb n first many S X) ∧ Below B w w' := by
  subst hk
  exact Left_calls sb hb n first many S.F S.ps w B _ hH
theorem ParentsIs (f : Int) (l : List (Int × Int)) (hl : toldL 1 f (allS S.ps) = l) (hH : Has w B (staL sb hb n first many S X)) :
    Calls Try.prog 18 #[.pointer (some ⟨sb, 0, none⟩), .int .i64 f] w fun e w' => ∃ ao cap, e = .returned (.slice ao l.length cap) ∧ Has w' B (staL sb hb n first many S (row 46 2 (.slice ao l.length cap) l.length (atsL l) :: X)) ∧ Below B w w' := by
  subst hl
  refine (Parents_calls sb hb n first many S.F S.ps f w B _ hH).mono ?_
  rintro e w' ⟨ao, cap, rfl, h2, h3⟩
  exact ⟨ao, cap, rfl, toX h2, h3⟩
theorem LeavesIs (g : Int) (l : List (Int × Int)) (hl : toldL 2 g (allS S.ps) = l) (hH : Has w B (staL sb hb n first many S X)) :
    Calls Try.prog 19 #[.pointer (some ⟨sb, 0, none⟩), .int .i64 g] w fun e w' => ∃ ao cap, e = .returned (.slice ao l.length cap) ∧ Has w' B (staL sb hb n first many S (row 46 2 (.slice ao l.length cap) l.length (atsL l) :: X)) ∧ Below B w w' := by
  subst hl
  refine (Leaves_calls sb hb n first many S.F S.ps g w B _ hH).mono ?_
  rintro e w' ⟨ao, cap, rfl, h2, h3⟩
  exact ⟨ao, cap, rfl, toX h2, h3⟩
theorem AllIs (l : List Int) (hl : S.ps.map (·.f) = l) (hH : Has w B (staL sb hb n first many S X)) :
    Calls Try.prog 14 #[.pointer (some ⟨sb, 0, none⟩)] w fun e w' => ∃ ao cap, e = .returned (.slice ao l.length cap) ∧ Has w' B (staL sb hb n first many S (row 3 1 (.slice ao l.length cap) l.length (l.map (Value.int .i64)) :: X)) ∧ Below B w w' := by
  subst hl
  refine (All_calls sb hb n first many S.F S.ps w B _ hH).mono ?_
  rintro e w' ⟨ao, cap, rfl, h2, h3⟩
  exact ⟨ao, cap, rfl, toX h2, h3⟩
theorem OfIs (g : Int) (l : List Int) (hl : framesOf (ofP g) S.ps = l) (hH : Has w B (staL sb hb n first many S X)) :
    Calls Try.prog 25 #[.pointer (some ⟨sb, 0, none⟩), .int .i64 g] w fun e w' => ∃ ao cap, e = .returned (.slice ao l.length cap) ∧ Has w' B (staL sb hb n first many S (row 3 1 (.slice ao l.length cap) l.length (l.map (Value.int .i64)) :: X)) ∧ Below B w w' := by
  subst hl
  refine (Of_calls sb hb n first many S.F S.ps g w B _ hH).mono ?_
  rintro e w' ⟨ao, cap, rfl, h2, h3⟩
  exact ⟨ao, cap, rfl, toX h2, h3⟩
theorem GetIs (f i v : Int) (b : Bool) (hg : getR S.W n f i = .tuple #[.int .u64 v, .bool b]) (hH : Has w B (staL sb hb n first many S X)) :
    Calls Try.prog 24 #[.pointer (some ⟨hb, 0, none⟩), .int .i64 f, .int .i64 i] w fun e w' => e = .returned (.tuple #[.int .u64 v, .bool b]) ∧ w = w' := by
  rw [← hg]
  exact Get_calls hb n S.W f i w B _ (hH.perm (List.Perm.swap _ _ _))
theorem NewIs (W : List Int) (h : newP n first many) (hH : Has w B (MemA hb n W :: X)) :
    Calls Try.prog 12 #[.pointer (some ⟨hb, 0, none⟩), .int .i64 first, .int .i64 many] w fun e w' => ∃ sb, e = .returned (.pointer (some ⟨sb, 0, none⟩)) ∧ Has w' B (staL sb hb n first many ⟨W, freshL first many 0, []⟩ X) ∧ Below B w w' := New_yes hb n first many W h w B X hH
end

/-! ### the question -/
theorem zeroKeyL (w : World) : (zeroValue 31).run Try.prog w = .ok (.agg #[.int .i64 0, .int .i64 0, .int .i64 0]) w := by kernel_rfl
theorem zeroSlotL (w : World) : (zeroValue 42).run Try.prog w = .ok (.agg #[.int .i64 0, .int .i64 0, .bool false, .bool false, .bool false]) w := by kernel_rfl
def hW : List Int := List.replicate (16 * 8) 0
def hS0 : StS := ⟨hW, freshL 4 3 0, []⟩
def hS1 : StS := makeS 16 hS0 ⟨9, 2, 0⟩
def hS2 : StS := makeS 16 hS1 ⟨5, 1, 0⟩
def hS3 : StS := childS 16 hS2 4 3 5 (true, false, true)
def hS4 : StS := leafS 16 hS3 5 0 7 12 (false, true, false)
def hS5 : StS := dropS 16 hS4 5
theorem hv1 : makeV hS0 ⟨9, 2, 0⟩ = 4 := by decide +kernel
theorem hb1 : makeB hS0 ⟨9, 2, 0⟩ = true := by decide +kernel
theorem hv2 : makeV hS1 ⟨5, 1, 0⟩ = 5 := by decide +kernel
theorem hb2 : makeB hS1 ⟨5, 1, 0⟩ = true := by decide +kernel
theorem hv3 : makeV hS2 ⟨5, 1, 0⟩ = 0 := by decide +kernel
theorem hb3 : makeB hS2 ⟨5, 1, 0⟩ = false := by decide +kernel
theorem hv4 : makeV hS2 ⟨5, 2, 1⟩ = 0 := by decide +kernel
theorem hb4 : makeB hS2 ⟨5, 2, 1⟩ = false := by decide +kernel
theorem hc1 : childB hS2 4 3 5 = true := by decide +kernel
theorem hl1 : leafB 16 hS3 5 0 12 = true := by decide +kernel
theorem hc2 : childB hS4 5 3 4 = false := by decide +kernel
theorem hl2 : leafB 16 hS4 4 3 12 = false := by decide +kernel
theorem hg1 : getR hS4.W 16 4 3 = .tuple #[.int .u64 20483, .bool true] := by kernel_rfl
theorem hg2 : getR hS4.W 16 5 0 = .tuple #[.int .u64 9223372036854824965, .bool true] := by kernel_rfl
theorem hp1 : toldL 1 5 (allS hS4.ps) = [(4, 3)] := by decide +kernel
theorem hp2 : toldL 2 7 (allS hS4.ps) = [(5, 0)] := by decide +kernel
theorem hd1 : dropB hS4 5 = true := by decide +kernel
theorem hs1 : (slotAt hS5.ps 4 3).getD slotZ = slotZ := by decide +kernel
theorem hs2 : (slotAt hS5.ps 4 3).isSome = true := by decide +kernel
theorem hf1 : ((hS5.F.length : Nat) : Int) = 2 := by decide +kernel
theorem ha1 : hS5.ps.map (·.f) = [4] := by decide +kernel
theorem hm3 : makeS 16 hS2 ⟨5, 1, 0⟩ = hS2 := by unfold makeS; rw [hb3]; rfl
theorem hm4 : makeS 16 hS2 ⟨5, 2, 1⟩ = hS2 := by unfold makeS; rw [hb4]; rfl
theorem hcc2 : childS 16 hS4 5 3 4 (false, false, false) = hS4 := by unfold childS; rw [hc2]; rfl
theorem hll2 : leafS 16 hS4 4 3 7 12 (false, false, false) = hS4 := by unfold leafS; rw [hl2]; rfl

theorem sameAts_is (a b : Option Addr) (ca cb : Nat) (l m : List (Int × Int)) (r : Bool) (hr : (l == m) = r) (w : World) (h1 : SrcA w a l) (h2 : SrcA w b m) (B : Nat) (X : List Asr) (hH : Has w B X) :
    Calls Try.prog 17 #[.slice a l.length ca, .slice b m.length cb] w fun e w' => e = .returned (.bool r) ∧ Has w' B X ∧ Below B w w' := by
  subst hr
  exact keeps (SameAts_calls a b ca cb l m w h1 h2) hH
theorem sameInts_is (a b : Option Addr) (ca cb : Nat) (l m : List Int) (r : Bool) (hr : (l == m) = r) (w : World) (h1 : SrcI w a l) (h2 : SrcI w b m) (B : Nat) (X : List Asr) (hH : Has w B X) :
    Calls Try.prog 38 #[.slice a l.length ca, .slice b m.length cb] w fun e w' => e = .returned (.bool r) ∧ Has w' B X ∧ Below B w w' := by
  subst hr
  exact keeps (SameInts_calls a b ca cb l m w h1 h2) hH

set_option maxHeartbeats 4000000 in
set_option maxRecDepth 100000 in
theorem head_true : Does Try.prog 10 #[] [] (fun _ : Unit => .bool true) (fun _ => []) := by
  intro w B X hH
  have hH0 : Has w B X := hH
  have zk := zeroKeyL
  have za := zeroAt
  have zs := zeroSlotL
  have hE : ∀ W, Sem.run Try.prog (binOp .eql 42 (.agg #[.int .i64 0, .int .i64 0, .bool false, .bool false, .bool false]) (.agg #[.int .i64 0, .int .i64 0, .bool false, .bool false, .bool false])) W = .ok (.bool true) W := fun W => (slotS_eql slotZ slotZ W).trans (by simp)
  clear hH
  go_enter Try.func10, Try.ntmps10
  go_wp2_with fail
  refine (MemNew_yes 16 (by decide) (by decide) w _ _ hH0).mono ?_
  rintro e w1 ⟨hb, rfl, hH1, bA⟩
  clear hH0
  go_wp2_with fail
  refine (NewIs hb 16 4 3 w1 B X hW (by decide) hH1).mono ?_
  rintro e w2 ⟨sb, rfl, hH2, b2⟩
  have bA := bA.trans b2
  clear b2 hH1
  have CN := hid (New_no hb 16 14 3 hW (by decide) (by decide) (by decide) w2 B _ (hH2.perm (List.Perm.swap _ _ _)))
  go_wp2_with fail
  refine CN.out.mono ?_
  rintro e w3 ⟨rfl, hH3, b3⟩
  have bA := bA.trans b3
  have hH3 : Has w3 B (staL sb hb 16 4 3 hS0 X) := hH3.perm (List.Perm.swap _ _ _)
  clear b3 hH2 CN
  go_wp2_with fail
  refine (MakeIs sb hb 16 4 3 hS0 w3 B X ⟨9, 2, 0⟩ 4 true hS1 hv1 hb1 rfl hH3).mono ?_
  rintro e w4 ⟨rfl, hH4, b9⟩
  have bA := bA.trans b9
  clear b9 hH3
  go_wp2_with fail
  refine (MakeIs sb hb 16 4 3 hS1 w4 B X ⟨5, 1, 0⟩ 5 true hS2 hv2 hb2 rfl hH4).mono ?_
  rintro e w5 ⟨rfl, hH5, b9⟩
  have bA := bA.trans b9
  clear b9 hH4
  go_wp2_with fail
  refine (MakeIs sb hb 16 4 3 hS2 w5 B X ⟨5, 1, 0⟩ 0 false hS2 hv3 hb3 hm3 hH5).mono ?_
  rintro e w6 ⟨rfl, hH6, b9⟩
  have bA := bA.trans b9
  clear b9 hH5
  go_wp2_with fail
  refine (MakeIs sb hb 16 4 3 hS2 w6 B X ⟨5, 2, 1⟩ 0 false hS2 hv4 hb4 hm4 hH6).mono ?_
  rintro e w7 ⟨rfl, hH7, b9⟩
  have bA := bA.trans b9
  clear b9 hH6
  go_wp2_with fail
  refine (ChildIs sb hb 16 4 3 hS2 w7 B X 4 3 5 (true, false, true) true hS3 hc1 rfl hH7).mono ?_
  rintro e w8 ⟨rfl, hH8, b9⟩
  have bA := bA.trans b9
  clear b9 hH7
  go_wp2_with fail
  refine (LeafIs sb hb 16 4 3 hS3 w8 B X 5 0 7 12 (false, true, false) true hS4 hl1 rfl hH8).mono ?_
  rintro e w9 ⟨rfl, hH9, b9⟩
  have bA := bA.trans b9
  clear b9 hH8
  go_wp2_with fail
  refine (ChildIs sb hb 16 4 3 hS4 w9 B X 5 3 4 (false, false, false) false hS4 hc2 hcc2 hH9).mono ?_
  rintro e w10 ⟨rfl, hH10, b9⟩
  have bA := bA.trans b9
  clear b9 hH9
  go_wp2_with fail
  refine (LeafIs sb hb 16 4 3 hS4 w10 B X 4 3 7 12 (false, false, false) false hS4 hl2 hll2 hH10).mono ?_
  rintro e w11 ⟨rfl, hH11, b9⟩
  have bA := bA.trans b9
  clear b9 hH10
  go_wp2_with fail
  refine (GetIs sb hb 16 4 3 hS4 w11 B X 4 3 20483 true hg1 hH11).mono ?_
  rintro e w' ⟨rfl, rfl⟩
  go_wp2_with fail
  refine (GetIs sb hb 16 4 3 hS4 w11 B X 5 0 9223372036854824965 true hg2 hH11).mono ?_
  rintro e w' ⟨rfl, rfl⟩
  go_wp2_with fail
  refine (ParentsIs sb hb 16 4 3 hS4 w11 B X 5 [(4, 3)] hp1 hH11).mono ?_
  rintro e w12 ⟨ao, cap, rfl, hH12, b9⟩
  have bA := bA.trans b9
  clear b9 hH11
  go_wp2_with fail
  refine (LeavesIs sb hb 16 4 3 hS4 w12 B _ 7 [(5, 0)] hp2 hH12).mono ?_
  rintro e w13 ⟨bo, bcap, rfl, hH13, b9⟩
  have bA := bA.trans b9
  clear b9 hH12
  go_wp2_with fail
  refine (DropIs sb hb 16 4 3 hS4 w13 B _ 5 true hS5 (by decide) hd1 rfl hH13).mono ?_
  rintro e w14 ⟨rfl, hH14, b9⟩
  have bA := bA.trans b9
  clear b9 hH13
  go_wp2_with fail
  refine (SlotIs sb hb 16 4 3 hS5 w14 B _ 4 3 slotZ true hs1 hs2 hH14).mono ?_
  rintro e w15 ⟨rfl, hH15, b9⟩
  have bA := bA.trans b9
  clear b9 hH14
  have hA := hH15.newblk w15.heap.size 42 #[.int .i64 0, .int .i64 0, .bool false, .bool false, .bool false] rfl
  have bA := below_new bA hH15 (.cells #[.int .i64 0, .int .i64 0, .bool false, .bool false, .bool false] 42)
  have tok1 : True := trivial
  go_wp2_with (have _t := tok1; refine wpList_store_all [] _ hA 42 (.tmp 22) (.tmp 100) rfl rfl rfl (slotC slotZ) rfl slot_size rfl (slot_one _) ?_; clear _t tok1; intro v1 hV1 bV1 hz; clear hz)
  have hV1 : Has v1 B (staL sb hb 16 4 3 hS5 (blk w15.heap.size 42 (slotC slotZ) :: row 46 2 (.slice bo 1 bcap) 1 (atsL [(5, 0)]) :: row 46 2 (.slice ao 1 cap) 1 (atsL [(4, 3)]) :: X)) := toX hV1
  have bA := bA.trans bV1
  clear hA hH15
  have hB := hV1.newblk v1.heap.size 46 (atsL [(4, 3)]).toArray rfl
  have bB := below_new bA hV1 (.cells (atsL [(4, 3)]).toArray 46)
  refine (sameAts_is ao (some ⟨v1.heap.size, 0, none⟩) cap 1 [(4, 3)] [(4, 3)] true (by decide) _ (srca_row [_, _, _, _, _] _ hB rfl) (srca_blk [] _ hB (by decide)) B _ hB).mono ?_
  rintro e v2 ⟨rfl, hV2, b9⟩
  have bB := bB.trans b9
  have hV2 := hV2.drop
  clear b9 hB hV1
  go_wp2_with fail
  have hB := hV2.newblk v2.heap.size 46 (atsL [(5, 0)]).toArray rfl
  have bB := below_new bB hV2 (.cells (atsL [(5, 0)]).toArray 46)
  refine (sameAts_is bo (some ⟨v2.heap.size, 0, none⟩) bcap 1 [(5, 0)] [(5, 0)] true (by decide) _ (srca_row [_, _, _, _] _ hB rfl) (srca_blk [] _ hB (by decide)) B _ hB).mono ?_
  rintro e v3 ⟨rfl, hV3, b9⟩
  have bB := bB.trans b9
  have hV3 := hV3.drop
  clear b9 hB hV2
  have y0 := hV3.cell [_, _] _ 0 (v := .int .i64 0) rfl
  have y1 := hV3.cell [_, _] _ 1 (v := .int .i64 0) rfl
  have y2 := hV3.cell [_, _] _ 2 (v := .bool false) rfl
  have y3 := hV3.cell [_, _] _ 3 (v := .bool false) rfl
  have y4 := hV3.cell [_, _] _ 4 (v := .bool false) rfl
  go_wp2_with fail
  refine (LeftIs sb hb 16 4 3 hS5 v3 B _ 2 hf1 hV3).mono ?_
  rintro e v4 ⟨rfl, hV4, b9⟩
  have bB := bB.trans b9
  clear b9 hV3 y0 y1 y2 y3 y4
  go_wp2_with fail
  refine (AllIs sb hb 16 4 3 hS5 v4 B _ [4] ha1 hV4).mono ?_
  rintro e v5 ⟨co, ccap, rfl, hV5, b9⟩
  have bB := bB.trans b9
  clear b9 hV4
  go_wp2_with fail
  have hB := hV5.newblk v5.heap.size 3 ([4].map (Value.int .i64)).toArray rfl
  have bB := below_new bB hV5 (.cells ([4].map (Value.int .i64)).toArray 3)
  refine (sameInts_is co (some ⟨v5.heap.size, 0, none⟩) ccap 1 [4] [4] true (by decide) _ (srci_row [_, _, _] _ hB rfl) (srci_blk [] _ hB (by decide)) B _ hB).mono ?_
  rintro e v6 ⟨rfl, hV6, b9⟩
  have bB := bB.trans b9
  go_wp2_with fail
  go_ret
  exact ⟨(), rfl, hV6.drop.drop.drop.drop.drop.drop.drop, bB⟩

end Go.Proofs.Yteeapkndappnoaa
