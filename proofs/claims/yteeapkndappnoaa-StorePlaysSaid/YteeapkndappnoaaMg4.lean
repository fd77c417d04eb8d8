/-
  Texts of this proof, merged in their order: StoHead, FrameArgs, FrameGreat, FrameRef, Rst, StoInv, RstB, RstC, RstD, PteHead, PteRef, PteRefPut, RstE, RstF.
-/
import Derived.Test.YteeapkndappnoaaMg3
import Derived.Test.YteeapkndappnoaaMg1
import Derived.StillTailTactics
import Derived.Deep.LoopGhost
import Derived.Test.YteeapkndappnoaaMg2
import Derived.Lib.QuietBelow
import Derived.Laws.StructEq
import Derived.Deep.RegionHeld3
/-
  The live question of layer 14.
-/
namespace Go.Proofs.Yteeapkndappnoaa
open Go.RowKit
set_option linter.unusedVariables false
set_option linter.unusedSimpArgs false

/-! ### calls whose answers are known -/
section
variable (sb hb n : Nat) (first many : Int) (S : StS) (w : World) (B : Nat) (X : List Asr)
theorem MakeIs (k : KeyS) (v : Int) (b : Bool) (T : StS) (hv : makeV S k = v) (h1 : makeB S k = b) (hT : makeS n S k = T) (hH : Has w B (staL sb hb n first many S X)) :
    Calls Try.prog 21 #[.pointer (some ⟨sb, 0, none⟩), .agg (keyC k)] w fun e w' => e = .returned (.tuple #[.int .i64 v, .bool b]) ∧ Has w' B (staL sb hb n first many T X) ∧ Below B w w' := by
  subst hv h1 hT
  exact Make_calls sb hb n first many S k w B X hH
theorem ChildIs (f i c : Int) (r : Bool × Bool × Bool) (b : Bool) (T : StS) (h1 : childB S f i c = b) (hT : childS n S f i c r = T) (hH : Has w B (staL sb hb n first many S X)) :
    Calls Try.prog 44 #[.pointer (some ⟨sb, 0, none⟩), .int .i64 f, .int .i64 i, .int .i64 c, .agg (rArr r)] w fun e w' => e = .returned (.bool b) ∧ Has w' B (staL sb hb n first many T X) ∧ Below B w w' := by
  subst h1 hT
  exact Child_calls sb hb n first many S f i c r w B X hH
theorem LeafIs (f i g h : Int) (r : Bool × Bool × Bool) (b : Bool) (T : StS) (h1 : leafB n S f i h = b) (hT : leafS n S f i g h r = T) (hH : Has w B (staL sb hb n first many S X)) :
    Calls Try.prog 45 #[.pointer (some ⟨sb, 0, none⟩), .int .i64 f, .int .i64 i, .int .i64 g, .int .i64 h, .agg (rArr r)] w fun e w' => e = .returned (.bool b) ∧ Has w' B (staL sb hb n first many T X) ∧ Below B w w' := by
  subst h1 hT
  exact Leaf_calls sb hb n first many S f i g h r w B X hH
theorem ClearIs (f i : Int) (b : Bool) (T : StS) (h1 : clearB S f i = b) (hT : clearS n S f i = T) (hH : Has w B (staL sb hb n first many S X)) :
    Calls Try.prog 30 #[.pointer (some ⟨sb, 0, none⟩), .int .i64 f, .int .i64 i] w fun e w' => e = .returned (.bool b) ∧ Has w' B (staL sb hb n first many T X) ∧ Below B w w' := by
  subst h1 hT
  exact Clear_calls sb hb n first many S f i w B X hH
theorem DropIs (f : Int) (b : Bool) (T : StS) (hw : (Lit.int .i64 f).wf = true) (h1 : dropB S f = b) (hT : dropS n S f = T) (hH : Has w B (staL sb hb n first many S X)) :
    Calls Try.prog 20 #[.pointer (some ⟨sb, 0, none⟩), .int .i64 f] w fun e w' => e = .returned (.bool b) ∧ Has w' B (staL sb hb n first many T X) ∧ Below B w w' := by
  subst h1 hT
  exact Drop_calls sb hb n first many S f hw w B X hH
theorem SlotIs (f i : Int) (y : SlotS) (b : Bool) (hy : (slotAt S.ps f i).getD slotZ = y) (h1 : (slotAt S.ps f i).isSome = b) (hH : Has w B (staL sb hb n first many S X)) :
    Calls Try.prog 16 #[.pointer (some ⟨sb, 0, none⟩), .int .i64 f, .int .i64 i] w fun e w' => e = .returned (.tuple #[.agg (slotC y), .bool b]) ∧ Has w' B (staL sb hb n first many S X) ∧ Below B w w' := by
  subst hy h1
  exact Slot_calls sb hb n first many S.F S.ps f i w B _ hH
theorem LeftIs (k : Int) (hk : (S.F.length : Int) = k) (hH : Has w B (staL sb hb n first many S X)) :
    Calls Try.prog 23 #[.pointer (some ⟨sb, 0, none⟩)] w fun e w' => e = .returned (.int .i64 k) ∧ Has w' B (staL sb hb n first many S X) ∧ Below B w w' := by
  subst hk
  exact Left_calls sb hb n first many S.F S.ps w B _ hH
theorem ParentsIs (f : Int) (l : List (Int × Int)) (hl : toldL 1 f (allS S.ps) = l) (hH : Has w B (staL sb hb n first many S X)) :
    Calls Try.prog 18 #[.pointer (some ⟨sb, 0, none⟩), .int .i64 f] w fun e w' => ∃ ao cap, e = .returned (.slice ao l.length cap) ∧ Has w' B (staL sb hb n first many S (row 46 2 (.slice ao l.length cap) l.length (atsL l) :: X)) ∧ Below B w w' := by
  subst hl
  refine (Parents_calls sb hb n first many S.F S.ps f w B _ hH).mono ?_
  rintro e w' ⟨ao, cap, rfl, h2, h3⟩
  exact ⟨ao, cap, rfl, toX h2, h3⟩
theorem LeavesIs (g : Int) (l : List (Int × Int)) (hl : toldL 2 g (allS S.ps) = l) (hH : Has w B (staL sb hb n first many S X)) :
    Calls Try.prog 19 #[.pointer (some ⟨sb, 0, none⟩), .int .i64 g] w fun e w' => ∃ ao cap, e = .returned (.slice ao l.length cap) ∧ Has w' B (staL sb hb n first many S (row 46 2 (.slice ao l.length cap) l.length (atsL l) :: X)) ∧ Below B w w' := by
  subst hl
  refine (Leaves_calls sb hb n first many S.F S.ps g w B _ hH).mono ?_
  rintro e w' ⟨ao, cap, rfl, h2, h3⟩
  exact ⟨ao, cap, rfl, toX h2, h3⟩
theorem AllIs (l : List Int) (hl : S.ps.map (·.f) = l) (hH : Has w B (staL sb hb n first many S X)) :
    Calls Try.prog 14 #[.pointer (some ⟨sb, 0, none⟩)] w fun e w' => ∃ ao cap, e = .returned (.slice ao l.length cap) ∧ Has w' B (staL sb hb n first many S (row 3 1 (.slice ao l.length cap) l.length (l.map (Value.int .i64)) :: X)) ∧ Below B w w' := by
  subst hl
  refine (All_calls sb hb n first many S.F S.ps w B _ hH).mono ?_
  rintro e w' ⟨ao, cap, rfl, h2, h3⟩
  exact ⟨ao, cap, rfl, toX h2, h3⟩
theorem OfIs (g : Int) (l : List Int) (hl : framesOf (ofP g) S.ps = l) (hH : Has w B (staL sb hb n first many S X)) :
    Calls Try.prog 25 #[.pointer (some ⟨sb, 0, none⟩), .int .i64 g] w fun e w' => ∃ ao cap, e = .returned (.slice ao l.length cap) ∧ Has w' B (staL sb hb n first many S (row 3 1 (.slice ao l.length cap) l.length (l.map (Value.int .i64)) :: X)) ∧ Below B w w' := by
  subst hl
  refine (Of_calls sb hb n first many S.F S.ps g w B _ hH).mono ?_
  rintro e w' ⟨ao, cap, rfl, h2, h3⟩
  exact ⟨ao, cap, rfl, toX h2, h3⟩
theorem GetIs (f i v : Int) (b : Bool) (hg : getR S.W n f i = .tuple #[.int .u64 v, .bool b]) (hH : Has w B (staL sb hb n first many S X)) :
    Calls Try.prog 24 #[.pointer (some ⟨hb, 0, none⟩), .int .i64 f, .int .i64 i] w fun e w' => e = .returned (.tuple #[.int .u64 v, .bool b]) ∧ w = w' := by
  rw [← hg]
  exact Get_calls hb n S.W f i w B _ (hH.perm (List.Perm.swap _ _ _))
theorem NewIs (W : List Int) (h : newP n first many) (hH : Has w B (MemA hb n W :: X)) :
    Calls Try.prog 12 #[.pointer (some ⟨hb, 0, none⟩), .int .i64 first, .int .i64 many] w fun e w' => ∃ sb, e = .returned (.pointer (some ⟨sb, 0, none⟩)) ∧ Has w' B (staL sb hb n first many ⟨W, freshL first many 0, []⟩ X) ∧ Below B w w' := New_yes hb n first many W h w B X hH
end

/-! ### the question -/
theorem zeroKeyL (w : World) : (zeroValue 31).run Try.prog w = .ok (.agg #[.int .i64 0, .int .i64 0, .int .i64 0]) w := by kernel_rfl
theorem zeroSlotL (w : World) : (zeroValue 42).run Try.prog w = .ok (.agg #[.int .i64 0, .int .i64 0, .bool false, .bool false, .bool false]) w := by kernel_rfl
def hW : List Int := List.replicate (16 * 8) 0
def hS0 : StS := ⟨hW, freshL 4 3 0, []⟩
def hS1 : StS := makeS 16 hS0 ⟨9, 2, 0⟩
def hS2 : StS := makeS 16 hS1 ⟨5, 1, 0⟩
def hS3 : StS := childS 16 hS2 4 3 5 (true, false, true)
def hS4 : StS := leafS 16 hS3 5 0 7 12 (false, true, false)
def hS5 : StS := dropS 16 hS4 5
theorem hv1 : makeV hS0 ⟨9, 2, 0⟩ = 4 := by decide +kernel
theorem hb1 : makeB hS0 ⟨9, 2, 0⟩ = true := by decide +kernel
theorem hv2 : makeV hS1 ⟨5, 1, 0⟩ = 5 := by decide +kernel
theorem hb2 : makeB hS1 ⟨5, 1, 0⟩ = true := by decide +kernel
theorem hv3 : makeV hS2 ⟨5, 1, 0⟩ = 0 := by decide +kernel
theorem hb3 : makeB hS2 ⟨5, 1, 0⟩ = false := by decide +kernel
theorem hv4 : makeV hS2 ⟨5, 2, 1⟩ = 0 := by decide +kernel
theorem hb4 : makeB hS2 ⟨5, 2, 1⟩ = false := by decide +kernel
theorem hc1 : childB hS2 4 3 5 = true := by decide +kernel
theorem hl1 : leafB 16 hS3 5 0 12 = true := by decide +kernel
theorem hc2 : childB hS4 5 3 4 = false := by decide +kernel
theorem hl2 : leafB 16 hS4 4 3 12 = false := by decide +kernel
theorem hg1 : getR hS4.W 16 4 3 = .tuple #[.int .u64 20483, .bool true] := by kernel_rfl
theorem hg2 : getR hS4.W 16 5 0 = .tuple #[.int .u64 9223372036854824965, .bool true] := by kernel_rfl
theorem hp1 : toldL 1 5 (allS hS4.ps) = [(4, 3)] := by decide +kernel
theorem hp2 : toldL 2 7 (allS hS4.ps) = [(5, 0)] := by decide +kernel
theorem hd1 : dropB hS4 5 = true := by decide +kernel
theorem hs1 : (slotAt hS5.ps 4 3).getD slotZ = slotZ := by decide +kernel
theorem hs2 : (slotAt hS5.ps 4 3).isSome = true := by decide +kernel
theorem hf1 : ((hS5.F.length : Nat) : Int) = 2 := by decide +kernel
theorem ha1 : hS5.ps.map (·.f) = [4] := by decide +kernel
theorem hm3 : makeS 16 hS2 ⟨5, 1, 0⟩ = hS2 := by unfold makeS; rw [hb3]; rfl
theorem hm4 : makeS 16 hS2 ⟨5, 2, 1⟩ = hS2 := by unfold makeS; rw [hb4]; rfl
theorem hcc2 : childS 16 hS4 5 3 4 (false, false, false) = hS4 := by unfold childS; rw [hc2]; rfl
theorem hll2 : leafS 16 hS4 4 3 7 12 (false, false, false) = hS4 := by unfold leafS; rw [hl2]; rfl

theorem sameAts_is (a b : Option Addr) (ca cb : Nat) (l m : List (Int × Int)) (r : Bool) (hr : (l == m) = r) (w : World) (h1 : SrcA w a l) (h2 : SrcA w b m) (B : Nat) (X : List Asr) (hH : Has w B X) :
    Calls Try.prog 17 #[.slice a l.length ca, .slice b m.length cb] w fun e w' => e = .returned (.bool r) ∧ Has w' B X ∧ Below B w w' := by
  subst hr
  exact keeps (SameAts_calls a b ca cb l m w h1 h2) hH
theorem sameInts_is (a b : Option Addr) (ca cb : Nat) (l m : List Int) (r : Bool) (hr : (l == m) = r) (w : World) (h1 : SrcI w a l) (h2 : SrcI w b m) (B : Nat) (X : List Asr) (hH : Has w B X) :
    Calls Try.prog 38 #[.slice a l.length ca, .slice b m.length cb] w fun e w' => e = .returned (.bool r) ∧ Has w' B X ∧ Below B w w' := by
  subst hr
  exact keeps (SameInts_calls a b ca cb l m w h1 h2) hH

set_option maxHeartbeats 4000000 in
set_option maxRecDepth 100000 in
theorem head_true : Does Try.prog 10 #[] [] (fun _ : Unit => .bool true) (fun _ => []) := by
  intro w B X hH
  have hH0 : Has w B X := hH
  have zk := zeroKeyL
  have za := zeroAt
  have zs := zeroSlotL
  have hE : ∀ W, Sem.run Try.prog (binOp .eql 42 (.agg #[.int .i64 0, .int .i64 0, .bool false, .bool false, .bool false]) (.agg #[.int .i64 0, .int .i64 0, .bool false, .bool false, .bool false])) W = .ok (.bool true) W := fun W => (slotS_eql slotZ slotZ W).trans (by simp)
  clear hH
  go_enter Try.func10, Try.ntmps10
  go_wp2_with fail
  refine (MemNew_yes 16 (by decide) (by decide) w _ _ hH0).mono ?_
  rintro e w1 ⟨hb, rfl, hH1, bA⟩
  clear hH0
  go_wp2_with fail
  refine (NewIs hb 16 4 3 w1 B X hW (by decide) hH1).mono ?_
  rintro e w2 ⟨sb, rfl, hH2, b2⟩
  have bA := bA.trans b2
  clear b2 hH1
  have CN := hid (New_no hb 16 14 3 hW (by decide) (by decide) (by decide) w2 B _ (hH2.perm (List.Perm.swap _ _ _)))
  go_wp2_with fail
  refine CN.out.mono ?_
  rintro e w3 ⟨rfl, hH3, b3⟩
  have bA := bA.trans b3
  have hH3 : Has w3 B (staL sb hb 16 4 3 hS0 X) := hH3.perm (List.Perm.swap _ _ _)
  clear b3 hH2 CN
  go_wp2_with fail
  refine (MakeIs sb hb 16 4 3 hS0 w3 B X ⟨9, 2, 0⟩ 4 true hS1 hv1 hb1 rfl hH3).mono ?_
  rintro e w4 ⟨rfl, hH4, b9⟩
  have bA := bA.trans b9
  clear b9 hH3
  go_wp2_with fail
  refine (MakeIs sb hb 16 4 3 hS1 w4 B X ⟨5, 1, 0⟩ 5 true hS2 hv2 hb2 rfl hH4).mono ?_
  rintro e w5 ⟨rfl, hH5, b9⟩
  have bA := bA.trans b9
  clear b9 hH4
  go_wp2_with fail
  refine (MakeIs sb hb 16 4 3 hS2 w5 B X ⟨5, 1, 0⟩ 0 false hS2 hv3 hb3 hm3 hH5).mono ?_
  rintro e w6 ⟨rfl, hH6, b9⟩
  have bA := bA.trans b9
  clear b9 hH5
  go_wp2_with fail
  refine (MakeIs sb hb 16 4 3 hS2 w6 B X ⟨5, 2, 1⟩ 0 false hS2 hv4 hb4 hm4 hH6).mono ?_
  rintro e w7 ⟨rfl, hH7, b9⟩
  have bA := bA.trans b9
  clear b9 hH6
  go_wp2_with fail
  refine (ChildIs sb hb 16 4 3 hS2 w7 B X 4 3 5 (true, false, true) true hS3 hc1 rfl hH7).mono ?_
  rintro e w8 ⟨rfl, hH8, b9⟩
  have bA := bA.trans b9
  clear b9 hH7
  go_wp2_with fail
  refine (LeafIs sb hb 16 4 3 hS3 w8 B X 5 0 7 12 (false, true, false) true hS4 hl1 rfl hH8).mono ?_
  rintro e w9 ⟨rfl, hH9, b9⟩
  have bA := bA.trans b9
  clear b9 hH8
  go_wp2_with fail
  refine (ChildIs sb hb 16 4 3 hS4 w9 B X 5 3 4 (false, false, false) false hS4 hc2 hcc2 hH9).mono ?_
  rintro e w10 ⟨rfl, hH10, b9⟩
  have bA := bA.trans b9
  clear b9 hH9
  go_wp2_with fail
  refine (LeafIs sb hb 16 4 3 hS4 w10 B X 4 3 7 12 (false, false, false) false hS4 hl2 hll2 hH10).mono ?_
  rintro e w11 ⟨rfl, hH11, b9⟩
  have bA := bA.trans b9
  clear b9 hH10
  go_wp2_with fail
  refine (GetIs sb hb 16 4 3 hS4 w11 B X 4 3 20483 true hg1 hH11).mono ?_
  rintro e w' ⟨rfl, rfl⟩
  go_wp2_with fail
  refine (GetIs sb hb 16 4 3 hS4 w11 B X 5 0 9223372036854824965 true hg2 hH11).mono ?_
  rintro e w' ⟨rfl, rfl⟩
  go_wp2_with fail
  refine (ParentsIs sb hb 16 4 3 hS4 w11 B X 5 [(4, 3)] hp1 hH11).mono ?_
  rintro e w12 ⟨ao, cap, rfl, hH12, b9⟩
  have bA := bA.trans b9
  clear b9 hH11
  go_wp2_with fail
  refine (LeavesIs sb hb 16 4 3 hS4 w12 B _ 7 [(5, 0)] hp2 hH12).mono ?_
  rintro e w13 ⟨bo, bcap, rfl, hH13, b9⟩
  have bA := bA.trans b9
  clear b9 hH12
  go_wp2_with fail
  refine (DropIs sb hb 16 4 3 hS4 w13 B _ 5 true hS5 (by decide) hd1 rfl hH13).mono ?_
  rintro e w14 ⟨rfl, hH14, b9⟩
  have bA := bA.trans b9
  clear b9 hH13
  go_wp2_with fail
  refine (SlotIs sb hb 16 4 3 hS5 w14 B _ 4 3 slotZ true hs1 hs2 hH14).mono ?_
  rintro e w15 ⟨rfl, hH15, b9⟩
  have bA := bA.trans b9
  clear b9 hH14
  have hA := hH15.newblk w15.heap.size 42 #[.int .i64 0, .int .i64 0, .bool false, .bool false, .bool false] rfl
  have bA := below_new bA hH15 (.cells #[.int .i64 0, .int .i64 0, .bool false, .bool false, .bool false] 42)
  have tok1 : True := trivial
  go_wp2_with (have _t := tok1; refine wpList_store_all [] _ hA 42 (.tmp 22) (.tmp 100) rfl rfl rfl (slotC slotZ) rfl slot_size rfl (slot_one _) ?_; clear _t tok1; intro v1 hV1 bV1 hz; clear hz)
  have hV1 : Has v1 B (staL sb hb 16 4 3 hS5 (blk w15.heap.size 42 (slotC slotZ) :: row 46 2 (.slice bo 1 bcap) 1 (atsL [(5, 0)]) :: row 46 2 (.slice ao 1 cap) 1 (atsL [(4, 3)]) :: X)) := toX hV1
  have bA := bA.trans bV1
  clear hA hH15
  have hB := hV1.newblk v1.heap.size 46 (atsL [(4, 3)]).toArray rfl
  have bB := below_new bA hV1 (.cells (atsL [(4, 3)]).toArray 46)
  refine (sameAts_is ao (some ⟨v1.heap.size, 0, none⟩) cap 1 [(4, 3)] [(4, 3)] true (by decide) _ (srca_row [_, _, _, _, _] _ hB rfl) (srca_blk [] _ hB (by decide)) B _ hB).mono ?_
  rintro e v2 ⟨rfl, hV2, b9⟩
  have bB := bB.trans b9
  have hV2 := hV2.drop
  clear b9 hB hV1
  go_wp2_with fail
  have hB := hV2.newblk v2.heap.size 46 (atsL [(5, 0)]).toArray rfl
  have bB := below_new bB hV2 (.cells (atsL [(5, 0)]).toArray 46)
  refine (sameAts_is bo (some ⟨v2.heap.size, 0, none⟩) bcap 1 [(5, 0)] [(5, 0)] true (by decide) _ (srca_row [_, _, _, _] _ hB rfl) (srca_blk [] _ hB (by decide)) B _ hB).mono ?_
  rintro e v3 ⟨rfl, hV3, b9⟩
  have bB := bB.trans b9
  have hV3 := hV3.drop
  clear b9 hB hV2
  have y0 := hV3.cell [_, _] _ 0 (v := .int .i64 0) rfl
  have y1 := hV3.cell [_, _] _ 1 (v := .int .i64 0) rfl
  have y2 := hV3.cell [_, _] _ 2 (v := .bool false) rfl
  have y3 := hV3.cell [_, _] _ 3 (v := .bool false) rfl
  have y4 := hV3.cell [_, _] _ 4 (v := .bool false) rfl
  go_wp2_with fail
  refine (LeftIs sb hb 16 4 3 hS5 v3 B _ 2 hf1 hV3).mono ?_
  rintro e v4 ⟨rfl, hV4, b9⟩
  have bB := bB.trans b9
  clear b9 hV3 y0 y1 y2 y3 y4
  go_wp2_with fail
  refine (AllIs sb hb 16 4 3 hS5 v4 B _ [4] ha1 hV4).mono ?_
  rintro e v5 ⟨co, ccap, rfl, hV5, b9⟩
  have bB := bB.trans b9
  clear b9 hV4
  go_wp2_with fail
  have hB := hV5.newblk v5.heap.size 3 ([4].map (Value.int .i64)).toArray rfl
  have bB := below_new bB hV5 (.cells ([4].map (Value.int .i64)).toArray 3)
  refine (sameInts_is co (some ⟨v5.heap.size, 0, none⟩) ccap 1 [4] [4] true (by decide) _ (srci_row [_, _, _] _ hB rfl) (srci_blk [] _ hB (by decide)) B _ hB).mono ?_
  rintro e v6 ⟨rfl, hV6, b9⟩
  have bB := bB.trans b9
  go_wp2_with fail
  go_ret
  exact ⟨(), rfl, hV6.drop.drop.drop.drop.drop.drop.drop, bB⟩

end Go.Proofs.Yteeapkndappnoaa

/-
  What the laws of layer 1 are handed: calls, each with words of its own; words. And whether it is too much.
-/
namespace Go.Proofs.Yteeapkndappnoaa
open Go.RowKit Go.Deep Go.ChangeShapes Go.WideShapes
set_option linter.unusedVariables false
set_option linter.unusedSimpArgs false

section
variable {H : Type} {enc : TypeId × Value → H} {P : Program} {w : World} {base : Nat} {spare : Nat → Bool} {held : Bool}
/-- A struct's field that is a slice. -/
theorem open_slice_field {t e el : TypeId} {fs : Array Field} {fuel : Nat} {cs : List Value} {x : DataW H × List MemPlace} (ht : P.underlying t = some (.struct fs)) (h : DataW.trod enc P w base spare held fuel t cs = some x) (i off : Nat) (hf : (fs[i]?).map (fun f => (f.type, f.offset)) = some (e, off))
    (he : P.underlying e = some (.slice el)) (hc : P.cellsOf e = 1) : ∃ a len cap d p, cs[off]? = some (.slice a len cap) ∧ DataW.Trod enc P w base spare held e (.slice a len cap) d p := by
  cases hfi : fs[i]? with
  | none => rw [hfi] at hf; cases hf
  | some f =>
    rw [hfi] at hf
    simp at hf
    obtain ⟨n, y, hy⟩ := open_field ht h i f hfi
    rw [hf.1, hf.2, hc] at hy
    have key : ∃ a len cap, (cs.drop off).take 1 = [Value.slice a len cap] := by
      rcases open_slice he hy with ⟨hcs, _⟩ | ⟨a', len', cap', _, _, _, _, hcs, _⟩
      · exact ⟨_, _, _, hcs⟩
      · exact ⟨_, _, _, hcs⟩
    obtain ⟨a, len, cap, hk⟩ := key
    rw [hk] at hy
    refine ⟨a, len, cap, y.1, y.2, ?_, n, ?_⟩
    · have := congrArg (·[0]?) hk
      simpa [List.getElem?_take] using this
    · simpa [Value.cells] using hy
end

theorem open_u64s {H : Type} {enc : TypeId × Value → H} {w : World} {base : Nat} {spare : Nat → Bool} {held : Bool} {a : Option Addr} {len cap : Nat} {d : DataW H} {p : List MemPlace}
    (h : DataW.Trod enc Try.prog w base spare held 62 (.slice a len cap) d p) : ∃ l : List Int, l.length = len ∧ ArgRow w 1 a len (u64s l) ∧ ∀ x ∈ l, (Lit.int .u64 x).wf = true := by
  obtain ⟨l, h1, h2, h3⟩ := open_row (fun x => [Value.int .u64 x]) (fun x => (Lit.int .u64 x).wf = true) 1 (fun _ => rfl) (by decide) Try.underlying62 (by kernel_rfl) (open_int_elem Try.underlying55) h
  exact ⟨l, h1, h2.ints, h3⟩

theorem ArgRow.srcu {w : World} {a : Option Addr} {len : Nat} {l : List Int} (h : ArgRow w 1 a len (u64s l)) : SrcU w a l := by
  obtain ⟨h1, h2, h3⟩ := h
  rw [u64s_length] at h1
  exact ⟨by omega, fun h0 => h3 (by omega)⟩

/-- A call. -/
structure FOp where
  What : Int
  F : Int
  I : Int
  V : Int
  La : Option Addr
  Lc : Nat
  L : List Int
/-- Its cells. -/
def opC (o : FOp) : List Value := [.int .i64 o.What, .int .i64 o.F, .int .i64 o.I, .int .u64 o.V, .slice o.La o.L.length o.Lc]
structure FOk (w : World) (o : FOp) : Prop where
  what : (Lit.int .i64 o.What).wf = true
  f : (Lit.int .i64 o.F).wf = true
  i : (Lit.int .i64 o.I).wf = true
  v : (Lit.int .u64 o.V).wf = true
  src : SrcU w o.La o.L
  ws : ∀ x ∈ o.L, (Lit.int .u64 x).wf = true

end Go.Proofs.Yteeapkndappnoaa

/-
  Whether the calls are too many.
-/
namespace Go.Proofs.Yteeapkndappnoaa
open Go.RowKit Go.Deep
set_option linter.unusedVariables false
set_option linter.unusedSimpArgs false

/-- Field i of call k, now and later. -/
theorem ops_at {l : List FOp} {w w' : World} {a : Option Addr} {len : Nat} (hA : ArgRow w 5 a len (l.flatMap opC)) (hb : Below w.heap.size w w') {b o : Nat} (ha : a = some ⟨b, o, none⟩) {k : Nat} {x : FOp} (hk : l[k]? = some x) (i : Nat) {u : Value} (hu : (opC x)[i]? = some u) : w'.cell? ⟨b, o + k * 5 + i, none⟩ = some u := by
  obtain ⟨h1, h2, h3⟩ := hA
  have hl : l.length = len := by rw [flat_length opC 5 (fun _ => rfl)] at h1; omega
  have := (List.getElem?_eq_some_iff.1 hk).1
  obtain ⟨b', o', e, hlt, hc⟩ := h3 (by omega)
  rw [ha] at e
  injection e with e
  injection e with e1 e2 e3
  subst e1 e2
  exact ArgRow.elem (f := opC) (size := 5) (fun _ => rfl) hlt hc hb k i _ hk hu
theorem ops_len {l : List FOp} {w : World} {a : Option Addr} {len : Nat} (hA : ArgRow w 5 a len (l.flatMap opC)) : l.length = len := by
  have h1 := hA.lc
  rw [flat_length opC 5 (fun _ => rfl)] at h1
  omega

theorem ops_adds {l : List FOp} {w w' : World} {a : Option Addr} {len : Nat} (hA : ArgRow w 5 a len (l.flatMap opC)) (hb : Below w.heap.size w w') {b o : Nat} (ha : a = some ⟨b, o, none⟩) {k : Nat} {x : FOp} (hk : l[k]? = some x) : ∀ j u, (opC x)[j]? = some u → w'.cell? ((⟨b, o + k * 5, none⟩ : Addr).add j) = some u := by
  intro j u hj
  have e : (⟨b, o + k * 5, none⟩ : Addr).add j = ⟨b, o + k * 5 + j, none⟩ := by unfold Addr.add; split <;> simp_all
  rw [e]
  exact ops_at hA hb ha hk j hj
theorem op_one (x : FOp) : ∀ u ∈ (opC x).toArray.toList, u.oneCell' = true := by simp [opC, Value.oneCell']
def opZ : Array Value := #[.int .i64 0, .int .i64 0, .int .i64 0, .int .u64 0, .slice none 0 0]
/-- What Get answers where a word is known. -/
theorem getR_at {W : List Int} {n k j : Nat} {x : Int} (h : W[k * 8 + j]? = some x) (hk : k < n) (hj : j < 8) : getR W n k j = .tuple #[.int .u64 x, .bool true] := by
  have hw : wok n k j := ⟨by omega, by omega, by omega, by omega⟩
  simp [getR, hw, wat, List.getD, h]

/-- It answers, and turns nothing. -/
def GreatPost (w : World) (e : Ending) (w' : World) : Prop := (∃ g : Bool, e = .returned (.bool g)) ∧ w = w'

end Go.Proofs.Yteeapkndappnoaa

/-
  The document's answer to layer 1.
-/
namespace Go.Proofs.Yteeapkndappnoaa
open Go.RowKit
set_option linter.unusedVariables false
set_option linter.unusedSimpArgs false

/-- The document's memory, at block b. -/
def RMemA (b n : Nat) (W : List Int) : Asr :=
  Asr.ex fun g : Nat => Asr.and (1 ≤ n ∧ n ≤ 256 ∧ W.length = n * 8) <| Asr.all [blk b 109 #[.slice (some ⟨g, 0, none⟩) (n * 8) (n * 8)], row 55 1 (.slice (some ⟨g, 0, none⟩) (n * 8) (n * 8)) (n * 8) (u64s W)]
theorem RMemA.open {b n : Nat} {W : List Int} {w : World} {B : Nat} {X : List Asr} (hH : Has w B (RMemA b n W :: X)) : ∃ g : Nat, (1 ≤ n ∧ n ≤ 256 ∧ W.length = n * 8) ∧
    Has w B (blk b 109 #[.slice (some ⟨g, 0, none⟩) (n * 8) (n * 8)] :: row 55 1 (.slice (some ⟨g, 0, none⟩) (n * 8) (n * 8)) (n * 8) (u64s W) :: X) := by
  obtain ⟨g, hH⟩ := hH.open_ex
  obtain ⟨hI, hH⟩ := hH.open_and
  exact ⟨g, hI, hH.open_all⟩
theorem RMemA.shut {b n g : Nat} {W : List Int} {w : World} {B : Nat} {X : List Asr} (hI : 1 ≤ n ∧ n ≤ 256 ∧ W.length = n * 8)
    (hH : Has w B (blk b 109 #[.slice (some ⟨g, 0, none⟩) (n * 8) (n * 8)] :: row 55 1 (.slice (some ⟨g, 0, none⟩) (n * 8) (n * 8)) (n * 8) (u64s W) :: X)) : Has w B (RMemA b n W :: X) :=
  Has.shut_ex g (Has.shut_and hI (Has.shut_all _ hH))

/-- What the document's New hands back. -/
def RMemNewPost (frames : Int) (X : List Asr) (B : Nat) (w : World) (e : Ending) (w' : World) : Prop :=
  (¬ (1 ≤ frames ∧ frames ≤ 256) ∧ e = .returned (.pointer none) ∧ Has w' B X ∧ Below B w w') ∨
  (∃ b n : Nat, frames = n ∧ 1 ≤ n ∧ n ≤ 256 ∧ e = .returned (.pointer (some ⟨b, 0, none⟩)) ∧ Has w' B (RMemA b n (List.replicate (n * 8) 0) :: X) ∧ Below B w w')
theorem RMemNew_calls (frames : Int) (w : World) (B : Nat) (X : List Asr) (hH : Has w B X) :
    Calls Try.prog 31 #[.int .i64 frames] w (RMemNewPost frames X B w) := by
  by_cases h1 : frames < 1
  · have e1 : decide (frames < 1) = true := by rw [decide_eq_true_eq]; exact h1
    go_enter Try.func31, Try.ntmps31
    go_wp2_with fail
    go_ret
    exact .inl ⟨by omega, rfl, hH, Below.refl _ _⟩
  · have e1 : decide (frames < 1) = false := by rw [decide_eq_false_iff_not]; exact h1
    by_cases h2 : 256 < frames
    · have e2 : decide (256 < frames) = true := by rw [decide_eq_true_eq]; exact h2
      go_enter Try.func31, Try.ntmps31
      go_wp2_with fail
      go_ret
      exact .inl ⟨by omega, rfl, hH, Below.refl _ _⟩
    · have e2 : decide (256 < frames) = false := by rw [decide_eq_false_iff_not]; exact h2
      obtain ⟨n, rfl⟩ := Int.eq_ofNat_of_zero_le (show 0 ≤ frames by omega)
      obtain ⟨i0, hi, hz0, hz1, hz2⟩ := info_parts infoU64
      go_enter Try.func31, Try.ntmps31
      go_wp2_with (at_make; refine wpList_make_rows (n := n * 8) hH rfl _ _ 62 rfl i0 _ 8 Try.underlying62 hi hz0 hz1 hz2 _ _ _ _ rfl rfl (by simp) (by simp) (by omega) (by unfold maxLen; omega) ?_; intro w1 hH1 hB1)
      go_ret
      have e : (madeCells (Value.int .u64 0).cells (n * 8 * 1)).toList = u64s (List.replicate (n * 8) 0) := by
        rw [show (Value.int .u64 0).cells = Array.replicate 1 (.int .u64 0) from rfl, madeCells_same _ 1 _ (by omega)]
        simp [u64s]
      rw [e] at hH1
      have hN := hH1.newblk w1.heap.size 109 #[.slice (some ⟨w.heap.size, 0, none⟩) (n * 8) (n * 8)] rfl
      exact .inr ⟨w1.heap.size, n, rfl, by omega, by omega, rfl, RMemA.shut ⟨by omega, by omega, by simp⟩ hN, hB1.trans (below_new (Below.refl _ _) hH1 _)⟩

theorem RFrames_calls (b n : Nat) (W : List Int) (w : World) (B : Nat) (X : List Asr) (hH : Has w B (RMemA b n W :: X)) :
    Calls Try.prog 65 #[.pointer (some ⟨b, 0, none⟩)] w fun e w' => e = .returned (.int .i64 n) ∧ w = w' := by
  obtain ⟨g, ⟨hI1, hI2, hI3⟩, hO⟩ := RMemA.open hH
  have c0 := hO.cell [] _ 0 rfl
  have e1 : ((n : Int) * 8) / 8 = n := by omega
  have e1 : (((n * 8 : Nat) : Int)) / 8 = n := by omega
  clear hH hO
  go_enter Try.func65, Try.ntmps65
  go_wp2_with fail
  go_ret
  exact ⟨rfl, rfl⟩

theorem is_calls (b n : Nat) (W : List Int) (f i : Int) (w : World) (B : Nat) (X : List Asr) (hH : Has w B (RMemA b n W :: X)) :
    Calls Try.prog 74 #[.pointer (some ⟨b, 0, none⟩), .int .i64 f, .int .i64 i] w fun e w' => e = .returned (.bool (decide (wok n f i))) ∧ w = w' := by
  have cf := RFrames_calls b n W w B X hH
  have CF := hid cf
  clear cf hH
  by_cases h1 : 0 ≤ f
  · have e1 : decide (0 ≤ f) = true := by rw [decide_eq_true_eq]; exact h1
    by_cases h2 : f < n
    · have e2 : decide (f < (n : Int)) = true := by rw [decide_eq_true_eq]; exact h2
      by_cases h3 : 0 ≤ i
      · have e3 : decide (0 ≤ i) = true := by rw [decide_eq_true_eq]; exact h3
        by_cases h4 : i < 8
        · have e4 : decide (i < 8) = true := by rw [decide_eq_true_eq]; exact h4
          rw [show decide (wok n f i) = true from by rw [decide_eq_true_eq]; exact ⟨h1, h2, h3, h4⟩]
          go_enter Try.func74, Try.ntmps74
          go_wp2_with fail
          refine CF.out.mono ?_
          rintro e w6 ⟨rfl, rfl⟩
          go_wp2_with fail
          go_ret
          exact ⟨rfl, rfl⟩
        · have e4 : decide (i < 8) = false := by rw [decide_eq_false_iff_not]; exact h4
          rw [show decide (wok n f i) = false from by rw [decide_eq_false_iff_not]; exact fun h => h4 h.2.2.2]
          go_enter Try.func74, Try.ntmps74
          go_wp2_with fail
          refine CF.out.mono ?_
          rintro e w6 ⟨rfl, rfl⟩
          go_wp2_with fail
          go_ret
          exact ⟨rfl, rfl⟩
      · have e3 : decide (0 ≤ i) = false := by rw [decide_eq_false_iff_not]; exact h3
        rw [show decide (wok n f i) = false from by rw [decide_eq_false_iff_not]; exact fun h => h3 h.2.2.1]
        go_enter Try.func74, Try.ntmps74
        go_wp2_with fail
        refine CF.out.mono ?_
        rintro e w6 ⟨rfl, rfl⟩
        go_wp2_with fail
        go_ret
        exact ⟨rfl, rfl⟩
    · have e2 : decide (f < (n : Int)) = false := by rw [decide_eq_false_iff_not]; exact h2
      rw [show decide (wok n f i) = false from by rw [decide_eq_false_iff_not]; exact fun h => h2 h.2.1]
      go_enter Try.func74, Try.ntmps74
      go_wp2_with fail
      refine CF.out.mono ?_
      rintro e w6 ⟨rfl, rfl⟩
      go_wp2_with fail
      go_ret
      exact ⟨rfl, rfl⟩
  · have e1 : decide (0 ≤ f) = false := by rw [decide_eq_false_iff_not]; exact h1
    rw [show decide (wok n f i) = false from by rw [decide_eq_false_iff_not]; exact fun h => h1 h.1]
    go_enter Try.func74, Try.ntmps74
    go_wp2_with fail
    go_ret
    exact ⟨rfl, rfl⟩

theorem RSet_calls (b n : Nat) (W : List Int) (f i v : Int) (w : World) (B : Nat) (X : List Asr) (hH : Has w B (RMemA b n W :: X)) :
    Calls Try.prog 80 #[.pointer (some ⟨b, 0, none⟩), .int .i64 f, .int .i64 i, .int .u64 v] w fun e w' => e = .returned (.bool (decide (wok n f i))) ∧ Has w' B (RMemA b n (setW W n f i v) :: X) ∧ Below B w w' := by
  obtain ⟨g, ⟨hI1, hI2, hI3⟩, hO⟩ := RMemA.open hH
  have ci := is_calls b n W f i w B X hH
  by_cases hk : wok n f i
  · rw [decide_eq_true hk] at ci ⊢
    obtain ⟨k, j, rfl, rfl, h1, h2⟩ := wok_nat hk
    have hlt := wat_lt hk
    obtain ⟨x, hx⟩ : ∃ x, W[k * 8 + j]? = some x := ⟨_, List.getElem?_eq_getElem (by simp [wat] at hlt; omega)⟩
    have er : setW W n k j v = W.set (k * 8 + j) v := by simp [setW, hk, wat]
    rw [er]
    have c0 := hO.cell [] _ 0 rfl
    have c1 := hO.row_cell [_] _ (k * 8 + j) (u64s_get hx)
    have f1 := hO.row_frozen [_] _ (k * 8 + j)
    have hb : k * 8 + j < n * 8 := by omega
    have hS := hO.row_set [_] _ (k * 8 + j) (by rw [u64s_length]; omega) (.int .u64 v)
    rw [u64s_set] at hS
    have hgB : B ≤ g := by
      rcases hO.row_shape [_] _ with ⟨h, _⟩ | ⟨g', cap', h, _, _, h3, _⟩
      · cases h
      · cases h; exact h3
    have CI := hid ci
    clear er hk hlt hx hH hO ci
    go_enter Try.func80, Try.ntmps80
    go_wp2_with fail
    refine CI.out.mono ?_
    rintro e w' ⟨rfl, rfl⟩
    go_wp2_with fail
    go_ret
    exact ⟨rfl, RMemA.shut ⟨hI1, hI2, by simpa using hI3⟩ hS, (Below.refl _ _).setCell (p := ⟨g, k * 8 + j, none⟩) hgB (.int .u64 v)⟩
  · rw [decide_eq_false hk] at ci ⊢
    have er : setW W n f i v = W := by simp [setW, hk]
    rw [er]
    have CI := hid ci
    clear er hk hO ci
    go_enter Try.func80, Try.ntmps80
    go_wp2_with fail
    refine CI.out.mono ?_
    rintro e w' ⟨rfl, rfl⟩
    go_wp2_with fail
    go_ret
    exact ⟨rfl, hH, Below.refl _ _⟩

theorem wok_zero (n : Nat) (f : Int) : wok n f 0 ↔ 0 ≤ f ∧ f < n := ⟨fun h => ⟨h.1, h.2.1⟩, fun h => ⟨h.1, h.2, by omega, by omega⟩⟩

set_option maxHeartbeats 1000000 in
set_option maxRecDepth 100000 in
theorem RFrame_calls (b n : Nat) (W : List Int) (f : Int) (w : World) (B : Nat) (X : List Asr) (hH : Has w B (RMemA b n W :: X)) :
    Calls Try.prog 43 #[.pointer (some ⟨b, 0, none⟩), .int .i64 f] w fun e w' => ∃ v, e = .returned v ∧ Has w' B (row 55 1 v (frameW W n f).length (u64s (frameW W n f)) :: RMemA b n W :: X) ∧ Below B w w' := by
  obtain ⟨g, ⟨hI1, hI2, hI3⟩, hO⟩ := RMemA.open hH
  obtain ⟨i0, hi, hz0, hz1, hz2⟩ := info_parts infoU64
  have ci := is_calls b n W f 0 w B X hH
  by_cases hk : 0 ≤ f ∧ f < n
  · rw [decide_eq_true ((wok_zero n f).2 hk)] at ci
    have hL := frameW_length hI3 hk
    obtain ⟨k, rfl⟩ := Int.eq_ofNat_of_zero_le hk.1
    have hkn : k < n := by omega
    rw [hL]
    have c0 := hO.cell [] _ 0 rfl
    have CI := hid ci
    have HL := hid hL
    have hN := hO.newrow w.heap.size 55 1 rfl
    have hBN := below_new (Below.refl B w) hO (.cells #[] 55)
    have cN := hN.cell [_] _ 0 rfl
    have HP := hid (hN.row_part [_, _] _ (k * 8) _ (frame_part hI3 hkn))
    have hb1 : k * 8 ≤ k * 8 + 8 := by omega
    have hb2 : k * 8 + 8 ≤ n * 8 := by omega
    have hb3 : k * 8 + 8 - k * 8 = 8 := by omega
    clear hL ci c0
    go_enter Try.func43, Try.ntmps43
    go_wp2_with fail
    refine CI.out.mono ?_
    rintro e w' ⟨rfl, rfl⟩
    go_wp2_with (at_builtin; go_loud (refine wpList_append_rows [] _ hN rfl (.tmp 9) (.tmp 19) 62 rfl i0 (.int .u64 0) 8 Try.underlying62 hi hz0 hz1 hz2 rfl (by decide) rfl (some ⟨g, k * 8, none⟩) (k * 8 + 8 - k * 8) (n * 8 - k * 8) (u64s (frameW W n k)) rfl (by simp) (by rw [u64s_length, HL.out]; omega) (by intro ad h; cases h; exact HP.out) (by simp [u64s, Value.oneCell']) (by unfold maxLen; omega) (by omega) ?_); intro g1 cap1 w3 hH3 hB3; simp only [Nat.zero_add, Nat.add_sub_cancel_left, List.nil_append] at hH3 ⊢)
    go_ret
    exact ⟨_, rfl, (RMemA.shut ⟨hI1, hI2, hI3⟩ ((hH3.front [_] _).perm (List.Perm.cons _ (List.Perm.swap _ _ _)))).front [_] _, hBN.trans hB3⟩
  · rw [decide_eq_false (fun h => hk ((wok_zero n f).1 h))] at ci
    rw [frameW_no hk]
    have hR := hH.nilrow 55 1
    have CI := hid ci
    clear ci
    go_enter Try.func43, Try.ntmps43
    go_wp2_with fail
    refine CI.out.mono ?_
    rintro e w' ⟨rfl, rfl⟩
    go_wp2_with fail
    go_ret
    exact ⟨_, rfl, hR, Below.refl _ _⟩

end Go.Proofs.Yteeapkndappnoaa

/-
  The document's store: what it holds, where a page is.
-/
namespace Go.Proofs.Yteeapkndappnoaa
open Go.RowKit Go.Shelf
set_option linter.unusedVariables false
set_option linter.unusedSimpArgs false

/-! ### what it holds -/
def rpgL (x : Value × PageS) : List Value := [.int .i64 x.2.f, .int .i64 x.2.k.g, .int .i64 x.2.k.lv, .int .i64 x.2.k.ro, x.1]
def rpgsL (q : List (Value × PageS)) : List Value := q.flatMap rpgL
theorem rpgsL_length (q : List (Value × PageS)) : (rpgsL q).length = q.length * 5 := flat_length rpgL 5 (fun _ => rfl) q
def rws (q : List (Value × PageS)) : List Asr := q.map fun x => row 42 5 x.1 8 (slotsL x.2.s)
def rstX (sb hb fb : Nat) (v : Value) (first many : Int) (F : List Int) (q : List (Value × PageS)) (X : List Asr) : List Asr := blk sb 114 #[ptrV hb, ptrV fb, v] :: row 116 5 v q.length (rpgsL q) :: RefA fb first many F :: (rws q ++ X)
def RStA (sb hb n : Nat) (first many : Int) (F : List Int) (ps : List PageS) : Asr :=
  Asr.ex fun x : Nat × Value × List (Value × PageS) => Asr.and (x.2.2.map Prod.snd = ps ∧ StoP n first many F ps) <| Asr.all (blk sb 114 #[ptrV hb, ptrV x.1, x.2.1] :: row 116 5 x.2.1 x.2.2.length (rpgsL x.2.2) :: RefA x.1 first many F :: rws x.2.2)
theorem RStA.openX {sb hb n : Nat} {first many : Int} {F : List Int} {ps : List PageS} {w : World} {B : Nat} {X : List Asr} (hH : Has w B (RStA sb hb n first many F ps :: X)) :
    StoP n first many F ps ∧ ∃ (fb : Nat) (v : Value) (q : List (Value × PageS)), q.map Prod.snd = ps ∧ q.length ≤ 256 ∧ Has w B (rstX sb hb fb v first many F q X) := by
  obtain ⟨⟨fb, v, q⟩, h1⟩ := hH.open_ex
  obtain ⟨⟨h2, h3⟩, h4⟩ := h1.open_and
  exact ⟨h3, fb, v, q, h2, by rw [← List.length_map (f := Prod.snd), h2]; exact h3.len, h4.open_all⟩
theorem RStA.shut {sb hb n : Nat} {first many : Int} {F : List Int} {w : World} {B : Nat} {X : List Asr} (fb : Nat) (v : Value) (q : List (Value × PageS)) (hP : StoP n first many F (q.map Prod.snd))
    (hH : Has w B (rstX sb hb fb v first many F q X)) : Has w B (RStA sb hb n first many F (q.map Prod.snd) :: X) :=
  Has.shut_ex (A := fun x : Nat × Value × List (Value × PageS) => Asr.and (x.2.2.map Prod.snd = q.map Prod.snd ∧ StoP n first many F (q.map Prod.snd)) <| Asr.all (blk sb 114 #[ptrV hb, ptrV x.1, x.2.1] :: row 116 5 x.2.1 x.2.2.length (rpgsL x.2.2) :: RefA x.1 first many F :: rws x.2.2)) (fb, v, q)
    (Has.shut_and ⟨rfl, hP⟩ (Has.shut_all (blk sb 114 #[ptrV hb, ptrV fb, v] :: row 116 5 v q.length (rpgsL q) :: RefA fb first many F :: rws q) hH))
theorem RStA.fits {sb hb n : Nat} {first many : Int} {F : List Int} {ps : List PageS} {w : World} {B : Nat} {X : List Asr} (hH : Has w B (RStA sb hb n first many F ps :: X)) : StoP n first many F ps := (RStA.openX hH).1
def rstaL (sb hb n : Nat) (first many : Int) (S : StS) (X : List Asr) : List Asr := RStA sb hb n first many S.F S.ps :: RMemA hb n S.W :: X
theorem rstX_in {sb hb fb : Nat} {v : Value} {first many : Int} {F : List Int} {q : List (Value × PageS)} {w : World} {B : Nat} {A : Asr} {X : List Asr} (h : Has w B (A :: rstX sb hb fb v first many F q X)) : Has w B (rstX sb hb fb v first many F q (A :: X)) :=
  h.perm (List.perm_middle (l₁ := blk sb 114 #[ptrV hb, ptrV fb, v] :: row 116 5 v q.length (rpgsL q) :: RefA fb first many F :: rws q) (l₂ := X)).symm
theorem rstX_out {sb hb fb : Nat} {v : Value} {first many : Int} {F : List Int} {q : List (Value × PageS)} {w : World} {B : Nat} {A : Asr} {X : List Asr} (h : Has w B (rstX sb hb fb v first many F q (A :: X))) : Has w B (A :: rstX sb hb fb v first many F q X) :=
  h.perm (List.perm_middle (l₁ := blk sb 114 #[ptrV hb, ptrV fb, v] :: row 116 5 v q.length (rpgsL q) :: RefA fb first many F :: rws q) (l₂ := X))

/-- What is read of the pages. -/
def RPgR (w : World) (v : Value) (q : List (Value × PageS)) : Prop :=
  ∃ ao cap, v = .slice ao q.length cap ∧ (0 < q.length → ∃ g, ao = some ⟨g, 0, none⟩ ∧ ∀ (j : Nat) (x : Value × PageS), q[j]? = some x →
    w.cell? ⟨g, j * 5, none⟩ = some (.int .i64 x.2.f) ∧ w.cell? ⟨g, j * 5 + 1, none⟩ = some (.int .i64 x.2.k.g) ∧ w.cell? ⟨g, j * 5 + 2, none⟩ = some (.int .i64 x.2.k.lv) ∧ w.cell? ⟨g, j * 5 + 3, none⟩ = some (.int .i64 x.2.k.ro) ∧ w.cell? ⟨g, j * 5 + 4, none⟩ = some x.1)
theorem RPgR.of {w : World} {B : Nat} {v : Value} {q : List (Value × PageS)} {A : Asr} {X : List Asr} (h : Has w B (A :: row 116 5 v q.length (rpgsL q) :: X)) : RPgR w v q := by
  rcases Has.row_shape [_] _ h with ⟨h1, h0⟩ | ⟨g, cap, rfl, _, _, _, _⟩
  · exact ⟨none, 0, by rw [h1, h0], fun h => by omega⟩
  · have H : ∀ (j : Nat) (x : Value × PageS), q[j]? = some x → ∀ (i : Nat) (u : Value), (rpgL x)[i]? = some u → w.cell? ⟨g, j * 5 + i, none⟩ = some u := fun j x hx i u hu => by
      have hi : i < 5 := (List.getElem?_eq_some_iff.1 hu).1
      exact Has.row_cell [_] _ h (j * 5 + i) (by rw [rpgsL, flat_get rpgL 5 (fun _ => rfl) q j i x hx hi]; exact hu)
    exact ⟨_, cap, rfl, fun _ => ⟨g, rfl, fun j x hx => ⟨H j x hx 0 _ rfl, H j x hx 1 _ rfl, H j x hx 2 _ rfl, H j x hx 3 _ rfl, H j x hx 4 _ rfl⟩⟩⟩
theorem rstX_R {sb hb fb : Nat} {v : Value} {first many : Int} {F : List Int} {q : List (Value × PageS)} {w : World} {B : Nat} {X : List Asr} (h : Has w B (rstX sb hb fb v first many F q X)) : RPgR w v q := RPgR.of h

/-! ### where a page is -/
def atN (ps : List PageS) (f : Int) : Option Nat := ps.findIdx? (fun p => p.f == f)
def atI (o : Option Nat) : Int := match o with | some j => (j : Int) | none => -1
theorem atN_some {ps : List PageS} {f : Int} {j : Nat} {p : PageS} (h : ps[j]? = some p) (hf : p.f = f) (hb : ∀ (z : Nat) y, z < j → ps[z]? = some y → ¬ y.f = f) : atN ps f = some j := by
  obtain ⟨h1, h2⟩ := List.getElem?_eq_some_iff.1 h
  unfold atN
  rw [List.findIdx?_eq_some_iff_getElem]
  refine ⟨h1, by rw [h2]; simpa using hf, fun z hz => ?_⟩
  have := hb z (ps[z]'(by omega)) hz (List.getElem?_eq_getElem (by omega))
  simpa using this
theorem atN_none {ps : List PageS} {f : Int} (hb : ∀ (z : Nat) y, z < ps.length → ps[z]? = some y → ¬ y.f = f) : atN ps f = none := by
  unfold atN
  rw [List.findIdx?_eq_none_iff]
  intro p hp
  obtain ⟨z, hz⟩ := List.mem_iff_getElem?.1 hp
  have := hb z p (List.getElem?_eq_some_iff.1 hz).1 hz
  simpa using this
theorem atN_get {ps : List PageS} {f : Int} {j : Nat} (h : atN ps f = some j) : ∃ p, ps[j]? = some p ∧ p.f = f ∧ pageAt ps f = some p := by
  unfold atN at h
  rw [List.findIdx?_eq_some_iff_getElem] at h
  obtain ⟨h1, h2, h3⟩ := h
  refine ⟨ps[j], List.getElem?_eq_getElem h1, by simpa using h2, ?_⟩
  unfold pageAt
  rw [List.find?_eq_some_iff_getElem]
  exact ⟨h2, j, h1, rfl, fun z hz => by have := h3 z hz; simpa using this⟩
theorem atN_not {ps : List PageS} {f : Int} (h : atN ps f = none) : pageAt ps f = none := by
  unfold atN at h
  rw [List.findIdx?_eq_none_iff] at h
  unfold pageAt
  rw [List.find?_eq_none]
  intro p hp
  have := h p hp
  simpa using this

set_option maxHeartbeats 400000 in
theorem at_calls (sb : Nat) (v : Value) (q : List (Value × PageS)) (f : Int) (o : Option Nat) (ho : atN (q.map Prod.snd) f = o) (hq : q.length ≤ 256) (w : World) (c2 : w.cell? ⟨sb, 2, none⟩ = some v) (hR : RPgR w v q) :
    Calls Try.prog 71 #[.pointer (some ⟨sb, 0, none⟩), .int .i64 f] w fun e w' => e = .returned (.int .i64 (atI o)) ∧ w = w' := by
  obtain ⟨ao, cap, rfl, hg⟩ := hR
  have HG := hid hg
  have HO := hid ho
  clear hg ho
  go_enter Try.func71, Try.ntmps71
  go_wp2_with fail
  go_loopg [5] q.length (fun g i wr => ∃ j : Nat, g + j = q.length ∧ i = .int .i64 j ∧ w = wr ∧ ∀ (z : Nat) y, z < j → q[z]? = some y → ¬ y.2.f = f)
  case atStart => exact ⟨0, by omega, rfl, rfl, fun z y h => by omega⟩
  case round =>
    obtain ⟨j, hj, rfl, rfl, hall⟩ := hrel
    have HJ := hid hj
    have HALL := hid hall
    clear hall hj
    by_cases hlt : j < q.length
    · obtain ⟨x, hx⟩ : ∃ x, q[j]? = some x := ⟨_, List.getElem?_eq_getElem hlt⟩
      obtain ⟨g, rfl, hrow⟩ := HG.out (by omega)
      have c0 := (hrow j x hx).1
      have HX := hid hx
      clear hrow hx
      by_cases hf : x.2.f = f
      · have q1 : (x.2.f == f) = true := by rw [beq_iff_eq]; exact hf
        have HF := hid hf
        clear hf
        go_wp2_with fail
        go_ret
        refine ⟨?_, rfl⟩
        rw [← HO.out, atN_some (j := j) (p := x.2) (by simp [HX.out]) HF.out (fun z y hz hy => by
          obtain ⟨y', hy', rfl⟩ : ∃ y', q[z]? = some y' ∧ y'.2 = y := by
            rw [List.getElem?_map] at hy
            cases h : q[z]? with
            | none => rw [h] at hy; exact absurd hy (by simp)
            | some y' => rw [h] at hy; exact ⟨y', rfl, by simpa using hy⟩
          exact HALL.out z y' hz hy')]
        rfl
      · have q1 : (x.2.f == f) = false := by rw [beq_eq_false_iff_ne]; exact hf
        have HF := hid hf
        clear hf
        go_wp2_with fail
        go_roundg (gk - 1)
        case measure => have := HJ.out; omega
        case rel => exact ⟨j + 1, by have := HJ.out; omega, by go_num, rfl, fun z y hz hy => by
          by_cases e : z < j
          · exact HALL.out z y e hy
          · obtain rfl : z = j := by omega
            rw [HX.out] at hy
            injection hy with hy
            rw [← hy]
            exact HF.out⟩
    · obtain rfl : j = q.length := by have := HJ.out; omega
      clear HJ
      go_wp2_with fail
      go_ret
      refine ⟨?_, rfl⟩
      rw [← HO.out, atN_none (fun z y hz hy => by
        obtain ⟨y', hy', rfl⟩ : ∃ y', q[z]? = some y' ∧ y'.2 = y := by
          rw [List.getElem?_map] at hy
          cases h : q[z]? with
          | none => rw [h] at hy; exact absurd hy (by simp)
          | some y' => rw [h] at hy; exact ⟨y', rfl, by simpa using hy⟩
        exact HALL.out z y' (by simpa using hz) hy')]
      rfl

end Go.Proofs.Yteeapkndappnoaa

/-
  The plain side of chapter 14: what each call does to slots, keys and words; what is always so.
-/
namespace Go.Proofs.Yteeapkndappnoaa
open Go.RowKit
set_option linter.unusedVariables false
set_option linter.unusedSimpArgs false

theorem run_inv {n : Nat} {Q : StS → Prop} (h : ∀ S o, Q S → Q (playS n S o)) : ∀ (l : List OpS) (S : StS), Q S → Q (runS n S l)
  | [], _, hS => hS
  | o :: l, S, hS => run_inv h l _ (h S o hS)
theorem play_keep {n : Nat} {Q : StS → Prop} {S : StS} (o : OpS) (hS : Q S) (hm : ∀ k, makeB S k = true → Q (makeS n S k)) (hc : ∀ f i c r, childB S f i c = true → Q (childS n S f i c r)) (hl : ∀ f i g h r, leafB n S f i h = true → Q (leafS n S f i g h r))
    (hx : ∀ f i, clearB S f i = true → Q (clearS n S f i)) (hd : ∀ f, dropB S f = true → Q (dropS n S f)) : Q (playS n S o) := by
  unfold playS
  split
  · by_cases h : makeB S o.k = true
    · exact hm _ h
    · unfold makeS; rw [if_neg h]; exact hS
  · split
    · by_cases h : childB S o.p o.i o.to = true
      · exact hc _ _ _ _ h
      · unfold childS; rw [if_neg h]; exact hS
    · split
      · by_cases h : leafB n S o.p o.i o.h = true
        · exact hl _ _ _ _ _ h
        · unfold leafS; rw [if_neg h]; exact hS
      · split
        · by_cases h : clearB S o.p o.i = true
          · exact hx _ _ h
          · unfold clearS; rw [if_neg h]; exact hS
        · by_cases h : dropB S o.p = true
          · exact hd _ h
          · unfold dropS; rw [if_neg h]; exact hS

/-! ### pages and slots -/
theorem pageAt_none {ps : List PageS} {f : Int} (h : f ∉ ps.map (·.f)) : pageAt ps f = none := by
  cases h2 : pageAt ps f with
  | none => rfl
  | some p => exact absurd (pageAt_some (by rw [h2]; rfl)) h
theorem pageAt_of {ps : List PageS} (hn : (ps.map (·.f)).Nodup) {p : PageS} (hp : p ∈ ps) : pageAt ps p.f = some p := by
  unfold pageAt
  induction ps with
  | nil => cases hp
  | cons q ps ih =>
    rw [List.map_cons, List.nodup_cons] at hn
    rcases List.mem_cons.1 hp with rfl | hp
    · simp
    · have hne : ¬ q.f = p.f := fun e => hn.1 (List.mem_map.2 ⟨p, hp, e.symm⟩)
      rw [List.find?_cons_of_neg (by simpa using hne)]
      exact ih hn.2 hp
theorem pageAt_mem {ps : List PageS} {f : Int} {p : PageS} (h : pageAt ps f = some p) : p ∈ ps ∧ p.f = f := by
  unfold pageAt at h
  have := List.find?_some h
  exact ⟨List.mem_of_find?_eq_some h, by simpa using this⟩
theorem pageAt_set (ps : List PageS) (g : Int) (k : Nat) (y : SlotS) (f : Int) : pageAt (setSlot ps g k y) f = (pageAt ps f).map fun p => if p.f = g then { p with s := p.s.set k y } else p := by
  unfold pageAt setSlot
  rw [List.find?_map]
  congr 1
  congr 1
  funext p
  simp only [Function.comp]
  split <;> rfl
theorem keyAt_set (ps : List PageS) (g : Int) (k : Nat) (y : SlotS) (f : Int) : keyAt (setSlot ps g k y) f = keyAt ps f := by
  unfold keyAt
  rw [pageAt_set]
  cases pageAt ps f with
  | none => rfl
  | some p =>
    simp only [Option.map]
    split <;> rfl
theorem isPage_set (ps : List PageS) (g : Int) (k : Nat) (y : SlotS) (f : Int) : (pageAt (setSlot ps g k y) f).isSome = (pageAt ps f).isSome := by
  rw [pageAt_set]
  cases pageAt ps f <;> rfl
theorem slotAt_range {ps : List PageS} {f i : Int} {y : SlotS} (h : slotAt ps f i = some y) : 0 ≤ i ∧ i < 8 := by
  unfold slotAt at h
  cases hp : pageAt ps f with
  | none => rw [hp] at h; cases h
  | some p =>
    rw [hp] at h
    dsimp only at h
    by_cases hi : 0 ≤ i ∧ i < 8
    · exact hi
    · rw [if_neg hi] at h; cases h
theorem slotAt_page {ps : List PageS} {f i : Int} {y : SlotS} (h : slotAt ps f i = some y) : ∃ p, pageAt ps f = some p ∧ p.s[i.toNat]? = some y := by
  have hr := slotAt_range h
  unfold slotAt at h
  cases hp : pageAt ps f with
  | none => rw [hp] at h; cases h
  | some p =>
    rw [hp] at h
    dsimp only at h
    rw [if_pos hr] at h
    exact ⟨p, rfl, h⟩
theorem slotAt_intro {ps : List PageS} {f i : Int} {y : SlotS} {p : PageS} (hp : pageAt ps f = some p) (hr : 0 ≤ i ∧ i < 8) (h : p.s[i.toNat]? = some y) : slotAt ps f i = some y := by
  unfold slotAt
  rw [hp]
  dsimp only
  rw [if_pos hr]
  exact h
theorem slotAt_set {ps : List PageS} {g j : Int} {y : SlotS} (hg : (slotAt ps g j).isSome = true) (f i : Int) : slotAt (setSlot ps g j.toNat y) f i = if f = g ∧ i = j then some y else slotAt ps f i := by
  obtain ⟨x, hx⟩ := Option.isSome_iff_exists.1 hg
  have hjr := slotAt_range hx
  obtain ⟨pg, hpg, hxs⟩ := slotAt_page hx
  unfold slotAt
  rw [pageAt_set]
  cases hp : pageAt ps f with
  | none =>
    have hne : ¬ (f = g ∧ i = j) := by rintro ⟨rfl, _⟩; rw [hpg] at hp; cases hp
    rw [if_neg hne]
    rfl
  | some p =>
    have hf := (pageAt_mem hp).2
    simp only [Option.map]
    by_cases e : f = g
    · subst e
      rw [hpg] at hp
      injection hp with hp
      subst hp
      rw [if_pos hf]
      by_cases hi : 0 ≤ i ∧ i < 8
      · rw [if_pos hi, if_pos hi]
        dsimp only
        by_cases ej : i = j
        · subst ej
          rw [if_pos ⟨rfl, rfl⟩, List.getElem?_set_self (List.getElem?_eq_some_iff.1 hxs).1]
        · rw [if_neg (fun h => ej h.2), List.getElem?_set_ne (by omega)]
      · rw [if_neg hi, if_neg hi, if_neg (by rintro ⟨_, rfl⟩; exact hi hjr)]
    · rw [if_neg (show ¬ p.f = g from by rw [hf]; exact e), if_neg (show ¬ (f = g ∧ i = j) from fun h => e h.1)]
theorem slotAt_key {ps : List PageS} {f i : Int} {y : SlotS} (h : slotAt ps f i = some y) : (pageAt ps f).isSome = true := by
  obtain ⟨p, hp, _⟩ := slotAt_page h
  rw [hp]; rfl

/-- A slot that is cleared. -/
def clr (x : SlotS) : SlotS := if x.kd = 0 then x else slotZ
theorem clr_clr (x : SlotS) : clr (clr x) = clr x := by
  unfold clr
  by_cases h : x.kd = 0 <;> simp [h, slotZ]
theorem slotAt_clear (n : Nat) (S : StS) (g j f i : Int) : slotAt (clearS n S g j).ps f i = if f = g ∧ i = j then (slotAt S.ps f i).map clr else slotAt S.ps f i := by
  unfold clearS
  by_cases h : clearB S g j = true
  · rw [if_pos h]
    have hs : (slotAt S.ps g j).isSome = true := by
      unfold clearB at h
      cases hq : slotAt S.ps g j with
      | none => rw [hq] at h; cases h
      | some x => rfl
    show slotAt (setSlot S.ps g j.toNat slotZ) f i = _
    rw [slotAt_set hs]
    by_cases e : f = g ∧ i = j
    · rw [if_pos e, if_pos e]
      obtain ⟨rfl, rfl⟩ := e
      obtain ⟨x, hx⟩ := Option.isSome_iff_exists.1 hs
      rw [hx]
      unfold clearB at h
      rw [hx] at h
      have hk : ¬ x.kd = 0 := by simpa using h
      simp [clr, hk]
    · rw [if_neg e, if_neg e]
  · rw [if_neg h]
    by_cases e : f = g ∧ i = j
    · rw [if_pos e]
      obtain ⟨rfl, rfl⟩ := e
      unfold clearB at h
      cases hq : slotAt S.ps f i with
      | none => rfl
      | some x =>
        rw [hq] at h
        have hk : x.kd = 0 := by simpa using h
        simp [clr, hk]
    · rw [if_neg e]
theorem slotAt_clearL (n : Nat) (f i : Int) : ∀ (l : List (Int × Int)) (S : StS), slotAt (clearL n S l).ps f i = if (f, i) ∈ l then (slotAt S.ps f i).map clr else slotAt S.ps f i
  | [], S => by simp [clearL]
  | a :: l, S => by
    show slotAt (clearL n (clearS n S a.1 a.2) l).ps f i = _
    rw [slotAt_clearL n f i l, slotAt_clear]
    by_cases e : f = a.1 ∧ i = a.2
    · have e2 : (f, i) ∈ a :: l := by simp [Prod.ext_iff, e]
      rw [if_pos e, if_pos e2]
      split
      · rw [Option.map_map]
        congr 1
        funext x
        exact clr_clr x
      · rfl
    · rw [if_neg e]
      have e3 : (f, i) ∈ a :: l ↔ (f, i) ∈ l := by
        rw [List.mem_cons]
        exact ⟨fun h => h.elim (fun h => absurd (by rw [← h]; exact ⟨rfl, rfl⟩) e) id, .inr⟩
      by_cases e2 : (f, i) ∈ l
      · rw [if_pos e2, if_pos (e3.2 e2)]
      · rw [if_neg e2, if_neg (fun h => e2 (e3.1 h))]
theorem slotAt_clearN (n : Nat) (g f i : Int) (S : StS) : ∀ k : Nat, slotAt (clearN n S g k).ps f i = if f = g ∧ 0 ≤ i ∧ i < (k : Int) then (slotAt S.ps f i).map clr else slotAt S.ps f i
  | 0 => by
    rw [if_neg (by omega)]
    rfl
  | k + 1 => by
    rw [clearN_succ, slotAt_clear, slotAt_clearN n g f i S k]
    by_cases e : f = g ∧ i = (k : Int)
    · rw [if_pos e, if_neg (by omega), if_pos (by omega)]
    · rw [if_neg e]
      by_cases e2 : f = g ∧ 0 ≤ i ∧ i < (k : Int)
      · rw [if_pos e2, if_pos (by omega)]
      · rw [if_neg e2, if_neg (by omega)]
/-- All slots, by their places. -/
theorem allS_mem {ps : List PageS} (hn : (ps.map (·.f)).Nodup) (h8 : ∀ p ∈ ps, p.s.length = 8) {f i : Int} {y : SlotS} : ((f, i), y) ∈ allS ps ↔ slotAt ps f i = some y := by
  unfold allS
  rw [List.mem_flatMap]
  constructor
  · rintro ⟨p, hp, h⟩
    obtain ⟨⟨z, j⟩, hz, e⟩ := List.mem_map.1 h
    simp only [Prod.mk.injEq] at e
    obtain ⟨⟨rfl, rfl⟩, rfl⟩ := e
    have hz2 := List.mem_zipIdx_iff_getElem?.1 hz
    have hl := h8 p hp
    have hj := (List.getElem?_eq_some_iff.1 hz2).1
    exact slotAt_intro (pageAt_of hn hp) (by omega) (by simpa using hz2)
  · intro h
    have hr := slotAt_range h
    obtain ⟨p, hp, hy⟩ := slotAt_page h
    obtain ⟨hm, rfl⟩ := pageAt_mem hp
    refine ⟨p, hm, List.mem_map.2 ⟨(y, i.toNat), List.mem_zipIdx_iff_getElem?.2 hy, ?_⟩⟩
    simp only [Prod.mk.injEq]
    exact ⟨⟨trivial, by omega⟩, trivial⟩
theorem toldL_mem {ps : List PageS} (hn : (ps.map (·.f)).Nodup) (h8 : ∀ p ∈ ps, p.s.length = 8) {kd to f i : Int} : (f, i) ∈ toldL kd to (allS ps) ↔ ∃ y, slotAt ps f i = some y ∧ y.kd = kd ∧ y.to = to := by
  unfold toldL
  rw [List.mem_map]
  constructor
  · rintro ⟨⟨⟨a, b⟩, y⟩, hx, e⟩
    obtain ⟨hx, ht⟩ := List.mem_filter.1 hx
    simp only [Prod.mk.injEq] at e
    obtain ⟨rfl, rfl⟩ := e
    refine ⟨y, (allS_mem hn h8).1 hx, ?_⟩
    unfold tellB at ht
    simpa using ht
  · rintro ⟨y, hy, h1, h2⟩
    refine ⟨((f, i), y), List.mem_filter.2 ⟨(allS_mem hn h8).2 hy, ?_⟩, rfl⟩
    unfold tellB
    simp [h1, h2]
/-- What a page's slots are behind all that is cleared ahead of its going. -/
theorem slotAt_dropC {n : Nat} {S : StS} (hn : (S.ps.map (·.f)).Nodup) (h8 : ∀ p ∈ S.ps, p.s.length = 8) (g f i : Int) : slotAt (dropC n S g).ps f i = (slotAt S.ps f i).map fun y => if f = g ∨ (y.kd = 1 ∧ y.to = g) then clr y else y := by
  unfold dropC
  rw [slotAt_clearN, slotAt_clearL]
  cases hs : slotAt S.ps f i with
  | none => simp
  | some y =>
    have hr := slotAt_range hs
    have hm : (f, i) ∈ toldL 1 g (allS S.ps) ↔ y.kd = 1 ∧ y.to = g := by
      rw [toldL_mem hn h8]
      constructor
      · rintro ⟨z, hz, h1, h2⟩
        rw [hs] at hz
        injection hz with hz
        rw [hz]
        exact ⟨h1, h2⟩
      · rintro ⟨h1, h2⟩
        exact ⟨y, hs, h1, h2⟩
    have hb : (if (f, i) ∈ toldL 1 g (allS S.ps) then (some y).map clr else some y) = some (if y.kd = 1 ∧ y.to = g then clr y else y) := by
      by_cases e2 : (f, i) ∈ toldL 1 g (allS S.ps)
      · rw [if_pos e2, if_pos (hm.1 e2)]; rfl
      · rw [if_neg e2, if_neg (fun h => e2 (hm.2 h))]
    rw [hb]
    by_cases e1 : f = g
    · rw [if_pos ⟨e1, hr.1, by omega⟩]
      simp only [Option.map]
      rw [if_pos (Or.inl e1)]
      split
      · rw [clr_clr]
      · rfl
    · rw [if_neg (fun h => e1 h.1)]
      simp only [Option.map]
      congr 1
      by_cases e3 : y.kd = 1 ∧ y.to = g
      · rw [if_pos e3, if_pos (Or.inr e3)]
      · rw [if_neg e3, if_neg (fun h => h.elim e1 e3)]
theorem pageAt_filter (ps : List PageS) (g f : Int) : pageAt (ps.filter fun p => p.f != g) f = if f = g then none else pageAt ps f := by
  unfold pageAt
  rw [List.find?_filter]
  by_cases e : f = g
  · subst e
    rw [if_pos rfl, List.find?_eq_none]
    intro p _
    simp
  · rw [if_neg e]
    congr 1
    funext p
    by_cases h : p.f = f
    · simp [h, e]
    · simp [h]
theorem slotAt_drop {n : Nat} {S : StS} (hn : (S.ps.map (·.f)).Nodup) (h8 : ∀ p ∈ S.ps, p.s.length = 8) {g : Int} (hd : dropB S g = true) (f i : Int) : slotAt (dropS n S g).ps f i = if f = g then none else (slotAt S.ps f i).map fun y => if y.kd = 1 ∧ y.to = g then clr y else y := by
  have hs : dropS n S g = ⟨(dropC n S g).W, (dropC n S g).F ++ [g], (dropC n S g).ps.filter fun p => p.f != g⟩ := by unfold dropS; rw [if_pos hd]
  have hdc := slotAt_dropC (n := n) hn h8 g f i
  rw [hs]
  generalize dropC n S g = T at *
  have h1 : slotAt (T.ps.filter fun p => p.f != g) f i = if f = g then none else slotAt T.ps f i := by
    unfold slotAt
    rw [pageAt_filter]
    by_cases e : f = g
    · rw [if_pos e, if_pos e]
    · rw [if_neg e, if_neg e]
  show slotAt (T.ps.filter fun p => p.f != g) f i = _
  rw [h1]
  by_cases e : f = g
  · rw [if_pos e, if_pos e]
  · rw [if_neg e, if_neg e, hdc]
    congr 1
    funext y
    simp [e]
theorem keyAt_clear (n : Nat) (S : StS) (g j f : Int) : keyAt (clearS n S g j).ps f = keyAt S.ps f := by
  unfold clearS putS
  split
  · exact keyAt_set _ _ _ _ _
  · rfl
theorem isPage_clear (n : Nat) (S : StS) (g j f : Int) : (pageAt (clearS n S g j).ps f).isSome = (pageAt S.ps f).isSome := by
  unfold clearS putS
  split
  · exact isPage_set _ _ _ _ _
  · rfl
theorem keyAt_dropC (n : Nat) (S : StS) (g f : Int) : keyAt (dropC n S g).ps f = keyAt S.ps f := dropC_inv (Q := fun T => keyAt T.ps f = keyAt S.ps f) (fun T a i h => by rw [keyAt_clear]; exact h) S g rfl
theorem isPage_dropC (n : Nat) (S : StS) (g f : Int) : (pageAt (dropC n S g).ps f).isSome = (pageAt S.ps f).isSome := dropC_inv (Q := fun T => (pageAt T.ps f).isSome = (pageAt S.ps f).isSome) (fun T a i h => by rw [isPage_clear]; exact h) S g rfl
theorem keyAt_drop {n : Nat} {S : StS} {g : Int} (hd : dropB S g = true) {f : Int} (hf : f ≠ g) : keyAt (dropS n S g).ps f = keyAt S.ps f := by
  have h := keyAt_dropC n S g f
  unfold dropS
  rw [if_pos hd, ← h]
  generalize dropC n S g = T at *
  show keyAt (T.ps.filter fun p => p.f != g) f = _
  unfold keyAt
  rw [pageAt_filter, if_neg hf]
theorem isPage_drop {n : Nat} {S : StS} {g : Int} (hd : dropB S g = true) (f : Int) : (pageAt (dropS n S g).ps f).isSome = (decide (f ≠ g) && (pageAt S.ps f).isSome) := by
  have h := isPage_dropC n S g f
  unfold dropS
  rw [if_pos hd, ← h]
  generalize dropC n S g = T at *
  show (pageAt (T.ps.filter fun p => p.f != g) f).isSome = _
  rw [pageAt_filter]
  by_cases e : f = g
  · rw [if_pos e]; simp [e]
  · rw [if_neg e]; simp [e]

/-! ### a page more -/
theorem pageAt_more {ps : List PageS} {p : PageS} (h : p.f ∉ ps.map (·.f)) (f : Int) : pageAt (ps ++ [p]) f = if f = p.f then some p else pageAt ps f := by
  unfold pageAt
  rw [List.find?_append]
  by_cases e : f = p.f
  · subst e
    have := pageAt_none h
    unfold pageAt at this
    rw [this, if_pos rfl]
    simp
  · rw [if_neg e]
    have : (p.f == f) = false := by rw [beq_eq_false_iff_ne]; exact fun h => e h.symm
    simp [this]
theorem slotAt_more {ps : List PageS} {g : Int} {k : KeyS} (h : g ∉ ps.map (·.f)) (f i : Int) : slotAt (ps ++ [newPg g k]) f i = if f = g then (if 0 ≤ i ∧ i < 8 then some slotZ else none) else slotAt ps f i := by
  unfold slotAt
  rw [pageAt_more (p := newPg g k) h]
  by_cases e : f = g
  · rw [if_pos e, if_pos (show f = (newPg g k).f from e)]
    dsimp only
    by_cases hi : 0 ≤ i ∧ i < 8
    · rw [if_pos hi, if_pos hi]
      show (List.replicate 8 slotZ)[i.toNat]? = some slotZ
      rw [List.getElem?_replicate, if_pos (by omega)]
    · rw [if_neg hi, if_neg hi]
  · rw [if_neg e, if_neg (show ¬ f = (newPg g k).f from e)]
/-- What making does. -/
theorem make_yes {n : Nat} {first many : Int} {S : StS} (hP : StoP n first many S.F S.ps) {k : KeyS} (h : makeB S k = true) :
    findK S.ps k = none ∧ rightK k ∧ takeB S.F = true ∧ makeS n S k = ⟨fillW S.W n (takeV S.F) (List.replicate 8 0), S.F.dropLast, S.ps ++ [newPg (takeV S.F) k]⟩ ∧ takeV S.F ∉ S.ps.map (·.f) ∧ first ≤ takeV S.F ∧ takeV S.F < first + many := by
  have h0 := h
  unfold makeB at h
  simp only [Bool.and_eq_true, Option.isNone_iff_eq_none, decide_eq_true_eq] at h
  have hm := takeV_mem h.2
  refine ⟨h.1.1, h.1.2, h.2, ?_, ?_, (hP.ff.rg _ hm).1, (hP.ff.rg _ hm).2⟩
  · unfold makeS
    rw [if_pos h0]
    rfl
  · intro hx
    obtain ⟨p, hp, e⟩ := List.mem_map.1 hx
    exact hP.df p hp (by rw [e]; exact hm)

/-- All is as it may be. -/
def okS (n : Nat) (first many : Int) (S : StS) : Prop := StoP n first many S.F S.ps
theorem okS_clear {n : Nat} {first many : Int} {S : StS} (h : okS n first many S) (f i : Int) : okS n first many (clearS n S f i) := by
  unfold clearS putS
  split
  · exact StoP.put h f i.toNat slotZ
  · exact h
theorem okS_put {n : Nat} {first many : Int} {S : StS} (h : okS n first many S) (f i h' : Int) (y : SlotS) : okS n first many (putS n S f i y h') := StoP.put h f i.toNat y
theorem okS_drop {n : Nat} {first many : Int} {S : StS} (h : okS n first many S) (f : Int) : okS n first many (dropS n S f) := by
  have h2 : okS n first many (dropC n S f) := dropC_inv (Q := okS n first many) (fun T g i hT => okS_clear hT g i) S f h
  have h3 := dropC_f n S f
  unfold dropS
  by_cases hd : dropB S f = true
  · rw [if_pos hd]
    generalize dropC n S f = T at *
    have hf : f ∈ T.ps.map (·.f) := by rw [h3]; exact pageAt_some hd
    obtain ⟨p, hp, rfl⟩ := List.mem_map.1 hf
    obtain ⟨k, hk⟩ := List.mem_iff_getElem?.1 hp
    have h4 := StoP.drop h2 hk
    rw [erase_filter h2.nd hk] at h4
    exact h4
  · rw [if_neg hd]
    exact h
theorem okS_play {n : Nat} {first many : Int} {S : StS} (h : okS n first many S) (o : OpS) : okS n first many (playS n S o) := by
  refine play_keep o h (fun k hk => ?_) (fun f i c r hc => ?_) (fun f i g h' r hl => ?_) (fun f i hx => okS_clear h f i) (fun f hd => okS_drop h f)
  · obtain ⟨h1, h2, h3, h4, _⟩ := make_yes h hk
    rw [h4]
    exact StoP.make h h1 h2 h3
  · unfold childS; rw [if_pos hc]; exact okS_put h _ _ _ _
  · unfold leafS; rw [if_pos hl]; exact okS_put h _ _ _ _

end Go.Proofs.Yteeapkndappnoaa

/-
  The document's store: Left, Key, Slot.
-/
namespace Go.Proofs.Yteeapkndappnoaa
open Go.RowKit Go.Shelf
set_option linter.unusedVariables false
set_option linter.unusedSimpArgs false

theorem at_no (sb : Nat) (v : Value) (q : List (Value × PageS)) (f : Int) (ho : atN (q.map Prod.snd) f = none) (hq : q.length ≤ 256) (w : World) (c2 : w.cell? ⟨sb, 2, none⟩ = some v) (hR : RPgR w v q) :
    Calls Try.prog 71 #[.pointer (some ⟨sb, 0, none⟩), .int .i64 f] w fun e w' => e = .returned (.int .i64 (-1)) ∧ w = w' := at_calls sb v q f none ho hq w c2 hR
theorem at_yes (sb : Nat) (v : Value) (q : List (Value × PageS)) (f : Int) (j : Nat) (ho : atN (q.map Prod.snd) f = some j) (hq : q.length ≤ 256) (w : World) (c2 : w.cell? ⟨sb, 2, none⟩ = some v) (hR : RPgR w v q) :
    Calls Try.prog 71 #[.pointer (some ⟨sb, 0, none⟩), .int .i64 f] w fun e w' => e = .returned (.int .i64 (j : Int)) ∧ w = w' := at_calls sb v q f (some j) ho hq w c2 hR
theorem at_page {q : List (Value × PageS)} {f : Int} {j : Nat} (h : atN (q.map Prod.snd) f = some j) : ∃ x, q[j]? = some x ∧ x.2.f = f ∧ pageAt (q.map Prod.snd) f = some x.2 := by
  obtain ⟨p, h1, h2, h3⟩ := atN_get h
  rw [List.getElem?_map] at h1
  cases hx : q[j]? with
  | none => rw [hx] at h1; exact absurd h1 (by simp)
  | some x =>
    rw [hx] at h1
    obtain rfl : x.2 = p := by simpa using h1
    exact ⟨x, rfl, h2, h3⟩
theorem addr_add (b o k : Nat) : (⟨b, o, none⟩ : Addr).add k = ⟨b, o + k, none⟩ := by unfold Addr.add; split <;> simp_all
theorem rpg_key {w : World} {v : Value} {q : List (Value × PageS)} (h : RPgR w v q) {j : Nat} {x : Value × PageS} (hx : q[j]? = some x) :
    ∃ g cap, v = .slice (some ⟨g, 0, none⟩) q.length cap ∧ ∀ i u, (keyL x.2.k)[i]? = some u → w.cell? ((⟨g, j * 5 + 1, none⟩ : Addr).add i) = some u := by
  obtain ⟨ao, cap, rfl, hg⟩ := h
  obtain ⟨g, rfl, hc⟩ := hg (by have := (List.getElem?_eq_some_iff.1 hx).1; omega)
  obtain ⟨h0, h1, h2, h3, h4⟩ := hc j x hx
  refine ⟨g, cap, rfl, fun i u hu => ?_⟩
  rw [addr_add]
  match i with
  | 0 => rw [← Option.some.inj hu]; exact h1
  | 1 => rw [← Option.some.inj hu]; exact h2
  | 2 => rw [← Option.some.inj hu]; exact h3
  | i + 3 => simp [keyL] at hu

theorem rws_split {q : List (Value × PageS)} {j : Nat} {x : Value × PageS} (h : q[j]? = some x) : rws q = rws (q.take j) ++ row 42 5 x.1 8 (slotsL x.2.s) :: rws (q.drop (j + 1)) := by
  have hl := (List.getElem?_eq_some_iff.1 h).1
  have e : q = q.take j ++ x :: q.drop (j + 1) := by
    have h1 := List.take_append_drop j q
    rw [List.drop_eq_getElem_cons hl, (List.getElem?_eq_some_iff.1 h).2] at h1
    exact h1.symm
  have e2 : rws q = rws (q.take j ++ x :: q.drop (j + 1)) := congrArg rws e
  rw [e2]
  simp [rws]
/-- One page's slots are a row among the others. -/
theorem rst_row {sb hb fb : Nat} {v : Value} {first many : Int} {F : List Int} {q : List (Value × PageS)} {w : World} {B : Nat} {X : List Asr} (hH : Has w B (rstX sb hb fb v first many F q X)) {j : Nat} {x : Value × PageS} (hx : q[j]? = some x) :
    Has w B ((blk sb 114 #[ptrV hb, ptrV fb, v] :: row 116 5 v q.length (rpgsL q) :: RefA fb first many F :: rws (q.take j)) ++ row 42 5 x.1 8 (slotsL x.2.s) :: (rws (q.drop (j + 1)) ++ X)) := by
  have h := hH
  unfold rstX at h
  rw [rws_split hx] at h
  simpa using h
theorem rst_slot {sb hb fb : Nat} {v : Value} {first many : Int} {F : List Int} {q : List (Value × PageS)} {w : World} {B : Nat} {X : List Asr} (hH : Has w B (rstX sb hb fb v first many F q X)) {j : Nat} {x : Value × PageS} (hx : q[j]? = some x) :
    ∃ g cap, x.1 = .slice (some ⟨g, 0, none⟩) 8 cap ∧ ∀ (i : Nat) y, x.2.s[i]? = some y → ∀ k u, (slotL y)[k]? = some u → w.cell? ((⟨g, i * 5, none⟩ : Addr).add k) = some u := by
  have h := rst_row hH hx
  obtain ⟨ao, cap, he, _, _, hao⟩ := Has.row_form _ _ h
  obtain ⟨g, rfl⟩ := hao (by decide)
  refine ⟨g, cap, he, fun i y hy k u hu => ?_⟩
  rw [he] at h
  have hk : k < 5 := by have := (List.getElem?_eq_some_iff.1 hu).1; simpa [slotL] using this
  exact Has.row_part _ _ h (i * 5) (slotL y) (fun k u hu => by
    have hk : k < 5 := by have := (List.getElem?_eq_some_iff.1 hu).1; simpa [slotL] using this
    rw [slotsL, flat_get slotL 5 (fun _ => rfl) x.2.s i k y hy hk]
    exact hu) k u hu

set_option maxHeartbeats 400000 in
theorem RStLeft_calls (sb hb n : Nat) (first many : Int) (F : List Int) (ps : List PageS) (w : World) (B : Nat) (X : List Asr) (hH : Has w B (RStA sb hb n first many F ps :: X)) :
    Calls Try.prog 37 #[.pointer (some ⟨sb, 0, none⟩)] w fun e w' => e = .returned (.int .i64 F.length) ∧ Has w' B (RStA sb hb n first many F ps :: X) ∧ Below B w w' := by
  obtain ⟨hP, fb, v, q, rfl, hl, hO⟩ := RStA.openX hH
  have c1 := hO.cell [] _ 1 (v := ptrV fb) rfl
  unfold ptrV at c1
  have hO2 : Has w B (RefA fb first many F :: blk sb 114 #[ptrV hb, ptrV fb, v] :: row 116 5 v q.length (rpgsL q) :: (rws q ++ X)) := Has.front [_, _] _ hO
  have CL := hid ((RefLeft fb first many F).at [] (blk sb 114 #[ptrV hb, ptrV fb, v] :: row 116 5 v q.length (rpgsL q) :: (rws q ++ X)) hO2)
  have HP := hid hP
  clear hH hP
  go_enter Try.func37, Try.ntmps37
  go_wp2_with fail
  refine CL.out.mono ?_
  rintro e w2 ⟨_, rfl, hH2, hB2⟩
  clear CL
  go_wp2_with fail
  go_ret
  exact ⟨rfl, RStA.shut fb v q HP.out (Has.back [_, _] _ hH2), hB2⟩

set_option maxHeartbeats 400000 in
theorem RKey_calls (sb hb n : Nat) (first many : Int) (F : List Int) (ps : List PageS) (f : Int) (w : World) (B : Nat) (X : List Asr) (hH : Has w B (RStA sb hb n first many F ps :: X)) :
    Calls Try.prog 35 #[.pointer (some ⟨sb, 0, none⟩), .int .i64 f] w fun e w' => e = .returned (.tuple #[.agg (keyC (keyAt ps f)), .bool (pageAt ps f).isSome]) ∧ Has w' B (RStA sb hb n first many F ps :: X) ∧ Below B w w' := by
  obtain ⟨hP, fb, v, q, rfl, hl, hO⟩ := RStA.openX hH
  obtain ⟨w1, hw1⟩ : ∃ w1, w.alloc (.cells (keyC keyZ) 31) = w1 := ⟨_, rfl⟩
  have hN := hO.newblk w.heap.size 31 (keyC keyZ) rfl
  have bN := below_new (Below.refl B w) hO (.cells (keyC keyZ) 31)
  rw [hw1] at hN bN
  have HW1 := hid hw1
  have HP := hid hP
  have zk := zeroKey
  obtain ⟨bb, hbb⟩ : ∃ bb, w.heap.size = bb := ⟨_, rfl⟩
  rw [hbb] at hN
  have n2 := hN.cell [_] _ 2 (v := v) rfl
  have hR := rstX_R hN.drop
  cases ho : atN (q.map Prod.snd) f with
  | none =>
    have hpa := atN_not ho
    have CA := hid (at_no sb v q f ho hl w1 n2 hR)
    have hka : keyAt (q.map Prod.snd) f = keyZ := by unfold keyAt; rw [hpa]
    rw [hka, hpa]
    clear hH hP hO n2 hR ho hpa hka hw1
    go_enter Try.func35, Try.ntmps35
    go_wp2_with fail
    rw [HW1.out]
    refine CA.out.mono ?_
    rintro e w2 ⟨rfl, rfl⟩
    clear CA
    go_wp2_with (refine wpList_store_all [] _ hN 31 (.tmp 4) (.tmp 12) rfl rfl rfl (keyL keyZ).toArray rfl key_size rfl (key_one _) ?_; intro w3 hH3 hB3 hz3)
    exact bodyPost_ret (results_cell_tmp (fn := Try.f35) rfl _ w3 bb 31 _ (0, 0) _ rfl (hH3.blk_at [] _).1 Try.underlying31 rfl key_size) rfl ⟨rfl, RStA.shut fb v q HP.out hH3.drop, bN.trans hB3⟩
  | some j =>
    obtain ⟨x, hx, hxf, hpa⟩ := at_page ho
    obtain ⟨g, cap, rfl, hc⟩ := rpg_key hR hx
    have CA := hid (at_yes sb _ q f j ho hl w1 n2 hR)
    have hka : keyAt (q.map Prod.snd) f = x.2.k := by unfold keyAt; rw [hpa]
    have hjl : j < q.length := (List.getElem?_eq_some_iff.1 hx).1
    have hjl' : (j : Int) < (q.length : Int) := by omega
    have hj0 : decide ((j : Int) < 0) = false := decide_eq_false (by omega)
    have KC := hid hc
    rw [hka, hpa]
    clear hH hP hO hR ho hpa hka hw1 hx hxf hc
    go_enter Try.func35, Try.ntmps35
    go_wp2_with fail
    rw [HW1.out]
    refine CA.out.mono ?_
    rintro e w2 ⟨rfl, rfl⟩
    clear CA
    go_wp2_with (first
      | (refine wpList_load_at 31 (.tmp 19) rfl rfl ⟨g, j * 5 + 1, none⟩ rfl _ (keyL x.2.k) KC.out Try.underlying31 rfl key_size ?_)
      | (refine wpList_store_all [] _ hN 31 (.tmp 4) (.tmp 20) rfl rfl rfl (keyL x.2.k).toArray rfl key_size rfl (key_one _) ?_; intro w3 hH3 hB3 hz3))
    exact bodyPost_ret (results_cell_tmp (fn := Try.f35) rfl _ w3 bb 31 _ (0, 0) _ rfl (hH3.blk_at [] _).1 Try.underlying31 rfl key_size) rfl ⟨rfl, RStA.shut fb _ q HP.out hH3.drop, bN.trans hB3⟩

theorem slotAt_off {ps : List PageS} {f i : Int} (h : ¬ (0 ≤ i ∧ i < 8)) : slotAt ps f i = none := by
  unfold slotAt
  cases pageAt ps f with
  | none => rfl
  | some p => exact if_neg h
theorem slotAt_no {ps : List PageS} {f i : Int} (h : pageAt ps f = none) : slotAt ps f i = none := by
  unfold slotAt
  rw [h]
set_option maxHeartbeats 400000 in
theorem RSlot_calls (sb hb n : Nat) (first many : Int) (F : List Int) (ps : List PageS) (f i : Int) (w : World) (B : Nat) (X : List Asr) (hH : Has w B (RStA sb hb n first many F ps :: X)) :
    Calls Try.prog 36 #[.pointer (some ⟨sb, 0, none⟩), .int .i64 f, .int .i64 i] w fun e w' => e = .returned (.tuple #[.agg (slotC ((slotAt ps f i).getD slotZ)), .bool (slotAt ps f i).isSome]) ∧ Has w' B (RStA sb hb n first many F ps :: X) ∧ Below B w w' := by
  obtain ⟨hP, fb, v, q, rfl, hl, hO⟩ := RStA.openX hH
  obtain ⟨w1, hw1⟩ : ∃ w1, w.alloc (.cells (slotC slotZ) 42) = w1 := ⟨_, rfl⟩
  have hN := hO.newblk w.heap.size 42 (slotC slotZ) rfl
  have bN := below_new (Below.refl B w) hO (.cells (slotC slotZ) 42)
  rw [hw1] at hN bN
  have HW1 := hid hw1
  have HP := hid hP
  have zk := zeroSlot
  obtain ⟨bb, hbb⟩ : ∃ bb, w.heap.size = bb := ⟨_, rfl⟩
  rw [hbb] at hN
  have n2 := hN.cell [_] _ 2 (v := v) rfl
  have hR := rstX_R hN.drop
  cases ho : atN (q.map Prod.snd) f with
  | none =>
    have hpa := slotAt_no (i := i) (atN_not ho)
    have CA := hid (at_no sb v q f ho hl w1 n2 hR)
    rw [hpa]
    clear hH hP hO n2 hR ho hpa hw1
    go_enter Try.func36, Try.ntmps36
    go_wp2_with fail
    rw [HW1.out]
    refine CA.out.mono ?_
    rintro e w2 ⟨rfl, rfl⟩
    clear CA
    go_wp2_with (refine wpList_store_all [] _ hN 42 (.tmp 6) (.tmp 22) rfl rfl rfl (slotL slotZ).toArray rfl slot_size rfl (slot_one _) ?_; intro w3 hH3 hB3 hz3)
    exact bodyPost_ret (results_cell_tmp (fn := Try.f36) rfl _ w3 bb 42 _ (0, 0) _ rfl (hH3.blk_at [] _).1 Try.underlying42 rfl slot_size) rfl ⟨rfl, RStA.shut fb v q HP.out hH3.drop, bN.trans hB3⟩
  | some j =>
    have CA := hid (at_yes sb _ q f j ho hl w1 n2 hR)
    obtain ⟨⟨xv, p⟩, hx, hxf, hpa⟩ := at_page ho
    have hj0 : decide ((j : Int) < 0) = false := decide_eq_false (by omega)
    by_cases hi0 : i < 0
    · have e0 : decide (i < 0) = true := decide_eq_true hi0
      rw [slotAt_off (by omega)]
      clear hH hP hO n2 hR ho hpa hw1 hx hxf hi0
      go_enter Try.func36, Try.ntmps36
      go_wp2_with fail
      rw [HW1.out]
      refine CA.out.mono ?_
      rintro e w2 ⟨rfl, rfl⟩
      clear CA
      go_wp2_with (refine wpList_store_all [] _ hN 42 (.tmp 6) (.tmp 22) rfl rfl rfl (slotL slotZ).toArray rfl slot_size rfl (slot_one _) ?_; intro w3 hH3 hB3 hz3)
      exact bodyPost_ret (results_cell_tmp (fn := Try.f36) rfl _ w3 bb 42 _ (0, 0) _ rfl (hH3.blk_at [] _).1 Try.underlying42 rfl slot_size) rfl ⟨rfl, RStA.shut fb v q HP.out hH3.drop, bN.trans hB3⟩
    have e0 : decide (i < 0) = false := decide_eq_false hi0
    by_cases hi7 : 7 < i
    · have e1 : decide (7 < i) = true := decide_eq_true hi7
      rw [slotAt_off (by omega)]
      clear hH hP hO n2 hR ho hpa hw1 hx hxf hi0 hi7
      go_enter Try.func36, Try.ntmps36
      go_wp2_with fail
      rw [HW1.out]
      refine CA.out.mono ?_
      rintro e w2 ⟨rfl, rfl⟩
      clear CA
      go_wp2_with (refine wpList_store_all [] _ hN 42 (.tmp 6) (.tmp 22) rfl rfl rfl (slotL slotZ).toArray rfl slot_size rfl (slot_one _) ?_; intro w3 hH3 hB3 hz3)
      exact bodyPost_ret (results_cell_tmp (fn := Try.f36) rfl _ w3 bb 42 _ (0, 0) _ rfl (hH3.blk_at [] _).1 Try.underlying42 rfl slot_size) rfl ⟨rfl, RStA.shut fb v q HP.out hH3.drop, bN.trans hB3⟩
    have e1 : decide (7 < i) = false := decide_eq_false hi7
    obtain ⟨k, rfl⟩ : ∃ k : Nat, i = (k : Int) := ⟨i.toNat, by omega⟩
    have hp8 : p.s.length = 8 := hP.s8 p (List.mem_map.2 ⟨(xv, p), List.mem_of_getElem? hx, rfl⟩)
    obtain ⟨y, hy⟩ : ∃ y, p.s[k]? = some y := ⟨_, List.getElem?_eq_getElem (by omega)⟩
    have hsl : slotAt (q.map Prod.snd) f (k : Int) = some y := slotAt_intro hpa (by omega) (by simpa using hy)
    obtain ⟨g2, cap2, he, hcs⟩ := rst_slot hN.drop hx
    dsimp only at he
    subst he
    have hjl : j < q.length := (List.getElem?_eq_some_iff.1 hx).1
    have hjl' : (j : Int) < (q.length : Int) := by omega
    have hk8 : (k : Int) < 8 := by omega
    obtain ⟨ao, cap, rfl, hg⟩ := hR
    obtain ⟨g, rfl, hc⟩ := hg (by omega)
    have c4 := (hc j _ hx).2.2.2.2
    have KC := hid (hcs k y hy)
    rw [hsl]
    clear hH hP hO ho hpa hw1 hx hxf hc hcs hsl hy hg hi0 hi7 hp8
    go_enter Try.func36, Try.ntmps36
    go_wp2_with fail
    rw [HW1.out]
    refine CA.out.mono ?_
    rintro e w2 ⟨rfl, rfl⟩
    clear CA
    go_wp2_with (first
      | (refine wpList_load_at 42 (.tmp 32) rfl rfl ⟨g2, k * 5, none⟩ rfl _ (slotL y) KC.out Try.underlying42 rfl slot_size ?_)
      | (refine wpList_store_all [] _ hN 42 (.tmp 6) (.tmp 33) rfl rfl rfl (slotL y).toArray rfl slot_size rfl (slot_one _) ?_; intro w3 hH3 hB3 hz3))
    exact bodyPost_ret (results_cell_tmp (fn := Try.f36) rfl _ w3 bb 42 _ (0, 0) _ rfl (hH3.blk_at [] _).1 Try.underlying42 rfl slot_size) rfl ⟨rfl, RStA.shut fb _ q HP.out hH3.drop, bN.trans hB3⟩

end Go.Proofs.Yteeapkndappnoaa

/-
  The document's store: Find, All, Of.
-/
namespace Go.Proofs.Yteeapkndappnoaa
open Go.RowKit Go.Shelf
set_option linter.unusedVariables false
set_option linter.unusedSimpArgs false

theorem rfind_key (q : List (Value × PageS)) (k : KeyS) : findK (q.map Prod.snd) k = (q.find? fun x => decide (x.2.k = k)).map Prod.snd := by
  unfold findK
  rw [List.find?_map]
  rfl
theorem RPgR.drewN {w : World} {v : Value} {q : List (Value × PageS)} (h : RPgR w v q) (m : Nat) : RPgR (w.drewN m) v q := h

set_option maxHeartbeats 400000 in
theorem RFind_calls (sb hb n : Nat) (first many : Int) (F : List Int) (ps : List PageS) (k : KeyS) (w : World) (B : Nat) (X : List Asr) (hH : Has w B (RStA sb hb n first many F ps :: X)) :
    Calls Try.prog 34 #[.pointer (some ⟨sb, 0, none⟩), .agg (keyC k)] w fun e w' => e = .returned (findV (findK ps k)) ∧ Has w' B (RStA sb hb n first many F ps :: X) ∧ Below B w w' := by
  obtain ⟨hP, fb, v, q, rfl, hl, hO⟩ := RStA.openX hH
  have hN := hO.newblk w.heap.size 31 (keyC k) rfl
  have bN := below_new (Below.refl B w) hO (.cells (keyC k) 31)
  obtain ⟨bb, hbb⟩ : ∃ bb, w.heap.size = bb := ⟨_, rfl⟩
  obtain ⟨w1, hw1⟩ : ∃ w1, w.alloc (.cells (keyC k) 31) = w1 := ⟨_, rfl⟩
  rw [hbb, hw1] at hN
  rw [hw1] at bN
  have n2 := hN.cell [_] _ 2 (v := v) rfl
  obtain ⟨ao, cap, rfl, hg⟩ := rstX_R hN.drop
  have HG := hid hg
  have HP := hid hP
  have HN2 := hid n2
  have HK0 := hid (show w1.cell? ⟨bb, 0, none⟩ = some (.int .i64 k.g) ∧ w1.cell? ⟨bb, 1, none⟩ = some (.int .i64 k.lv) ∧ w1.cell? ⟨bb, 2, none⟩ = some (.int .i64 k.ro) from ⟨hN.cell [] _ 0 rfl, hN.cell [] _ 1 rfl, hN.cell [] _ 2 rfl⟩)
  rw [rfind_key]
  clear hH hP hg hO n2
  go_enter Try.func34, Try.ntmps34
  go_wp2_with fail
  go_loopg [6] q.length (fun g i wr => ∃ j : Nat, g + j = q.length ∧ i = .int .i64 j ∧ (∃ m, wr = w1.drewN m) ∧ ∀ (z : Nat) y, z < j → q[z]? = some y → ¬ y.2.k = k)
  case atStart => exact ⟨0, by omega, rfl, ⟨0, rfl⟩, fun z y h => by omega⟩
  case round =>
    obtain ⟨j, hj, rfl, ⟨m, hm⟩, hall⟩ := hrel
    have HJ := hid hj
    have HALL := hid hall
    have HM := hid hm
    have c2 : wr.cell? ⟨sb, 2, none⟩ = some (.slice ao q.length cap) := by rw [hm]; exact HN2.out
    clear hall hj
    by_cases hlt : j < q.length
    · obtain ⟨x, hx⟩ : ∃ x, q[j]? = some x := ⟨_, List.getElem?_eq_getElem hlt⟩
      obtain ⟨g, rfl, hrow⟩ := HG.out (by omega)
      obtain ⟨p0, p1, p2, p3⟩ : wr.cell? ⟨g, j * 5, none⟩ = some (.int .i64 x.2.f) ∧ wr.cell? ⟨g, j * 5 + 1, none⟩ = some (.int .i64 x.2.k.g) ∧ wr.cell? ⟨g, j * 5 + 2, none⟩ = some (.int .i64 x.2.k.lv) ∧ wr.cell? ⟨g, j * 5 + 3, none⟩ = some (.int .i64 x.2.k.ro) := by
        rw [hm]
        exact ⟨(hrow j x hx).1, (hrow j x hx).2.1, (hrow j x hx).2.2.1, (hrow j x hx).2.2.2.1⟩
      obtain ⟨k0, k1, k2⟩ : wr.cell? ⟨bb, 0, none⟩ = some (.int .i64 k.g) ∧ wr.cell? ⟨bb, 1, none⟩ = some (.int .i64 k.lv) ∧ wr.cell? ⟨bb, 2, none⟩ = some (.int .i64 k.ro) := by rw [hm]; exact HK0.out
      have HX := hid hx
      obtain ⟨qb, hqb⟩ : ∃ qb, decide (x.2.k = k) = qb := ⟨_, rfl⟩
      have hE : ∀ W, Sem.run Try.prog (binOp .eql 31 (.agg #[.int .i64 x.2.k.g, .int .i64 x.2.k.lv, .int .i64 x.2.k.ro]) (.agg #[.int .i64 k.g, .int .i64 k.lv, .int .i64 k.ro])) W = .ok (.bool qb) W := fun W => by rw [← hqb]; exact keyS_eql x.2.k k W
      have HQ := hid hqb
      clear hqb hm hx hrow
      go_wp2_with fail
      go_quiet (fail)
      cases qb with
      | true =>
        go_wp2_with fail
        go_ret2
        have hfi : q.find? (fun x => decide (x.2.k = k)) = some x := by
          obtain ⟨h1, h2⟩ := List.getElem?_eq_some_iff.1 HX.out
          rw [List.find?_eq_some_iff_getElem]
          refine ⟨HQ.out, j, h1, h2, fun z hz => ?_⟩
          have := HALL.out z (q[z]'(by omega)) hz (List.getElem?_eq_getElem (by omega))
          simpa using this
        have hW : wr.drewN nq = w1.drewN (m + nq) := by rw [HM.out, World.drewN_drewN]
        refine ⟨by rw [hfi]; rfl, ?_, ?_⟩
        · rw [hW]
          exact RStA.shut fb _ q HP.out (hN.drop.drewN _)
        · rw [hW]
          exact below_drewNS bN _
      | false =>
        go_wp2_with fail
        go_roundg (gk - 1)
        case measure => have := HJ.out; omega
        case rel => exact ⟨j + 1, by have := HJ.out; omega, by go_num, ⟨m + nq, by rw [HM.out, World.drewN_drewN]⟩, fun z y hz hy => by
          by_cases e : z < j
          · exact HALL.out z y e hy
          · obtain rfl : z = j := by omega
            rw [HX.out] at hy
            injection hy with hy
            rw [← hy]
            simpa using HQ.out⟩
    · obtain rfl : j = q.length := by have := HJ.out; omega
      clear HJ hm
      go_wp2_with fail
      go_ret2
      have hfi : q.find? (fun x => decide (x.2.k = k)) = none := by
        rw [List.find?_eq_none]
        intro x hx
        obtain ⟨z, hz⟩ := List.mem_iff_getElem?.1 hx
        have := HALL.out z x (List.getElem?_eq_some_iff.1 hz).1 hz
        simpa using this
      refine ⟨by rw [hfi]; rfl, ?_, ?_⟩
      · rw [HM.out]
        exact RStA.shut fb _ q HP.out (hN.drop.drewN _)
      · rw [HM.out]
        exact below_drewNS bN _

/-- A row ahead of the opened store: the store is shut behind it. -/
theorem fromRow {sb hb n fb : Nat} {v : Value} {first many : Int} {F : List Int} {w : World} {B : Nat} {X : List Asr} {A : Asr} (q : List (Value × PageS)) (hP : StoP n first many F (q.map Prod.snd)) (h : Has w B (A :: rstX sb hb fb v first many F q X)) : Has w B (A :: RStA sb hb n first many F (q.map Prod.snd) :: X) :=
  (RStA.shut (hb := hb) fb v q hP (rstX_in h)).perm (List.Perm.swap _ _ _)

set_option maxHeartbeats 1000000 in
theorem RAll_calls (sb hb n : Nat) (first many : Int) (F : List Int) (ps : List PageS) (l : List Int) (hpl : ps.map (·.f) = l) (w : World) (B : Nat) (X : List Asr) (hH : Has w B (RStA sb hb n first many F ps :: X)) :
    Calls Try.prog 39 #[.pointer (some ⟨sb, 0, none⟩)] w fun e w' => ∃ u, e = .returned u ∧ Has w' B (row 3 1 u l.length (l.map (Value.int .i64)) :: RStA sb hb n first many F ps :: X) ∧ Below B w w' := by
  obtain ⟨hP, fb, v, q, rfl, hl, hO⟩ := RStA.openX hH
  have HPL := hid hpl
  obtain ⟨i0, hi, hz0, hz1, hz2⟩ := info_parts infoIntS
  have HP := hid hP
  obtain ⟨ao, cap, rfl, _⟩ := rstX_R hO
  have hN := hO.nilrow 3 1
  clear hH hP hpl
  go_enter Try.func39, Try.ntmps39
  go_wp2_with fail
  go_loopg [3, 4] q.length (fun g o i wr => ∃ (j : Nat) (u : Value), g + j = q.length ∧ o = u ∧ i = .int .i64 j ∧ Has wr B (row 3 1 u (((q.map Prod.snd).take j).map (·.f)).length ((((q.map Prod.snd).take j).map (·.f)).map (Value.int .i64)) :: rstX sb hb fb (.slice ao q.length cap) first many F q X) ∧ Below B w wr)
  case atStart => exact ⟨0, .slice none 0 0, by omega, rfl, rfl, hN, Below.refl _ _⟩
  case round =>
    obtain ⟨j, u, hj, rfl, rfl, hHr, hBr⟩ := hrel
    clear hN hO
    obtain ⟨uo, ucap, rfl, _, _, _⟩ := hHr.row_form [] _
    have HJ := hid hj
    have c2 := hHr.cell [_] _ 2 (v := .slice ao q.length cap) rfl
    by_cases hlt : j < q.length
    · obtain ⟨x, hx⟩ : ∃ x, q[j]? = some x := ⟨_, List.getElem?_eq_getElem hlt⟩
      obtain ⟨ao2, cap2, he, hg⟩ := rstX_R hHr.drop
      obtain ⟨g, rfl, hrow⟩ := hg (by omega)
      have ea : ao = some ⟨g, 0, none⟩ := by injection he
      subst ea
      have c0 := (hrow j x hx).1
      have hst : ((q.map Prod.snd).take (j + 1)).map (·.f) = ((q.map Prod.snd).take j).map (·.f) ++ [x.2.f] := by
        rw [List.take_add_one]
        simp [hx]
      have hlen : (((q.map Prod.snd).take j).map (·.f)).length ≤ 256 := by simp; omega
      obtain ⟨Lj, hLj⟩ : ∃ L, ((q.map Prod.snd).take j).map (·.f) = L := ⟨_, rfl⟩
      rw [hLj] at hst hlen hHr ⊢
      have HST := hid hst
      clear hst hx hrow he hg hj hLj
      go_wp2_with (at_builtin; refine wpList_append_row [] _ (hHr.alloc _) rfl (.tmp 14) (.tmp 23) 36 rfl i0 (.int .i64 0) 8 Try.underlying36 hi hz0 hz1 hz2 rfl (by decide) rfl ⟨wr.heap.size, 0, none⟩ 1 1 [.int .i64 x.2.f] rfl rfl (cell_one_new _ _ _) (by simp [Value.oneCell']) (by decide) (by unfold maxLen; omega) (by omega) ?_; intro g2 cap2 w3 hH3 hB3)
      go_roundg (gk - 1)
      case measure => have := HJ.out; omega
      case rel => exact ⟨j + 1, .slice (some ⟨g2, 0, none⟩) (Lj.length + 1) cap2, by have := HJ.out; omega, rfl, by go_num, by rw [HST.out]; simpa using hH3, hBr.trans ((below_new (Below.refl _ _) hHr _).trans hB3)⟩
    · obtain rfl : j = q.length := by omega
      rw [List.take_of_length_le (by simp), HPL.out] at hHr ⊢
      clear hj HJ
      go_wp2_with fail
      go_ret
      exact ⟨_, rfl, fromRow q HP.out hHr, hBr⟩

end Go.Proofs.Yteeapkndappnoaa

/-
  The document's store: Of, what tells a page or a guest's frame.
-/
namespace Go.Proofs.Yteeapkndappnoaa
open Go.RowKit Go.Shelf
set_option linter.unusedVariables false
set_option linter.unusedSimpArgs false

set_option maxHeartbeats 1000000 in
theorem ROf_calls (sb hb n : Nat) (first many : Int) (F : List Int) (ps : List PageS) (gg : Int) (l : List Int) (hpl : framesOf (ofP gg) ps = l) (w : World) (B : Nat) (X : List Asr) (hH : Has w B (RStA sb hb n first many F ps :: X)) :
    Calls Try.prog 40 #[.pointer (some ⟨sb, 0, none⟩), .int .i64 gg] w fun e w' => ∃ u, e = .returned u ∧ Has w' B (row 3 1 u l.length (l.map (Value.int .i64)) :: RStA sb hb n first many F ps :: X) ∧ Below B w w' := by
  obtain ⟨hP, fb, v, q, rfl, hl, hO⟩ := RStA.openX hH
  have HPL := hid hpl
  obtain ⟨i0, hi, hz0, hz1, hz2⟩ := info_parts infoIntS
  have HP := hid hP
  obtain ⟨ao, cap, rfl, _⟩ := rstX_R hO
  have hN : Has w B (row 3 1 (.slice none 0 0) (framesOf (ofP gg) ((q.map Prod.snd).take 0)).length ((framesOf (ofP gg) ((q.map Prod.snd).take 0)).map (Value.int .i64)) :: _) := hO.nilrow 3 1
  clear hH hP hpl
  go_enter Try.func40, Try.ntmps40
  go_wp2_with fail
  go_loopg [5, 6] q.length (fun g o i wr => ∃ (j : Nat) (u : Value), g + j = q.length ∧ o = u ∧ i = .int .i64 j ∧ Has wr B (row 3 1 u (framesOf (ofP gg) ((q.map Prod.snd).take j)).length ((framesOf (ofP gg) ((q.map Prod.snd).take j)).map (Value.int .i64)) :: rstX sb hb fb (.slice ao q.length cap) first many F q X) ∧ Below B w wr)
  case atStart => exact ⟨0, .slice none 0 0, by omega, rfl, rfl, hN, Below.refl _ _⟩
  case round =>
    obtain ⟨j, u, hj, rfl, rfl, hHr, hBr⟩ := hrel
    clear hN hO
    obtain ⟨uo, ucap, rfl, _, _, _⟩ := hHr.row_form [] _
    have HJ := hid hj
    have c2 := hHr.cell [_] _ 2 (v := .slice ao q.length cap) rfl
    by_cases hlt : j < q.length
    · obtain ⟨x, hx⟩ : ∃ x, q[j]? = some x := ⟨_, List.getElem?_eq_getElem hlt⟩
      obtain ⟨ao2, cap2, he, hg⟩ := rstX_R hHr.drop
      obtain ⟨g, rfl, hrow⟩ := hg (by omega)
      have ea : ao = some ⟨g, 0, none⟩ := by injection he
      subst ea
      have c0 := (hrow j x hx).1
      have c1 := (hrow j x hx).2.1
      have c3 := (hrow j x hx).2.2.2.1
      have hst := framesOf_succ (is := ofP gg) (ps := q.map Prod.snd) (j := j) (p := x.2) (by simp [hx])
      have hlen : (framesOf (ofP gg) ((q.map Prod.snd).take j)).length ≤ 256 := Nat.le_trans (framesOf_le _ _) (by simp; omega)
      obtain ⟨Lj, hLj⟩ : ∃ L, framesOf (ofP gg) ((q.map Prod.snd).take j) = L := ⟨_, rfl⟩
      rw [hLj] at hst hlen hHr ⊢
      have HST := hid hst
      clear hst hx hrow he hg hj hLj
      by_cases hr : x.2.k.ro = 0
      · have e1 : (x.2.k.ro == 0) = true := by rw [beq_iff_eq]; exact hr
        by_cases hgg : x.2.k.g = gg
        · have e2 : (x.2.k.g == gg) = true := by rw [beq_iff_eq]; exact hgg
          have HO := hid (show ofP gg x.2.k = true from by unfold ofP; rw [e1, e2]; rfl)
          clear hr hgg
          go_wp2_with (at_builtin; refine wpList_append_row [] _ (hHr.alloc _) rfl (.tmp 39) (.tmp 48) 36 rfl i0 (.int .i64 0) 8 Try.underlying36 hi hz0 hz1 hz2 rfl (by decide) rfl ⟨wr.heap.size, 0, none⟩ 1 1 [.int .i64 x.2.f] rfl rfl (cell_one_new _ _ _) (by simp [Value.oneCell']) (by decide) (by unfold maxLen; omega) (by omega) ?_; intro g2 cap2 w3 hH3 hB3)
          go_roundg (gk - 1)
          case measure => have := HJ.out; omega
          case rel => exact ⟨j + 1, .slice (some ⟨g2, 0, none⟩) (Lj.length + 1) cap2, by have := HJ.out; omega, rfl, by go_num, by rw [HST.out, HO.out]; simpa using hH3, hBr.trans ((below_new (Below.refl _ _) hHr _).trans hB3)⟩
        · have e2 : (x.2.k.g == gg) = false := by rw [beq_eq_false_iff_ne]; exact hgg
          have HO := hid (show ofP gg x.2.k = false from by unfold ofP; rw [e1, e2]; rfl)
          clear hr hgg
          go_wp2_with fail
          go_roundg (gk - 1)
          case measure => have := HJ.out; omega
          case rel => exact ⟨j + 1, _, by have := HJ.out; omega, rfl, by go_num, by rw [HST.out, HO.out]; simpa using hHr, hBr⟩
      · have e1 : (x.2.k.ro == 0) = false := by rw [beq_eq_false_iff_ne]; exact hr
        have HO := hid (show ofP gg x.2.k = false from by unfold ofP; rw [e1]; rfl)
        clear hr
        go_wp2_with fail
        go_roundg (gk - 1)
        case measure => have := HJ.out; omega
        case rel => exact ⟨j + 1, _, by have := HJ.out; omega, rfl, by go_num, by rw [HST.out, HO.out]; simpa using hHr, hBr⟩
    · obtain rfl : j = q.length := by omega
      rw [List.take_of_length_le (by simp), HPL.out] at hHr ⊢
      clear hj HJ
      go_wp2_with fail
      go_ret
      exact ⟨_, rfl, fromRow q HP.out hHr, hBr⟩

theorem rtold_step {w : World} {B : Nat} {V : Value} {l : List (Int × Int)} {x : Int × Int} {X : List Asr} (h : Has w B (row 46 2 V (l.length + 1) (atsL l ++ atL x) :: X)) : Has w B (row 46 2 V (l ++ if true = true then [x] else []).length (atsL (l ++ if true = true then [x] else [])) :: X) := by
  simpa [atsL_snoc] using h
theorem rtold_stay {w : World} {B : Nat} {V : Value} {l : List (Int × Int)} {x : Int × Int} {X : List Asr} (h : Has w B (row 46 2 V l.length (atsL l) :: X)) : Has w B (row 46 2 V (l ++ if false = true then [x] else []).length (atsL (l ++ if false = true then [x] else [])) :: X) := by
  simpa using h

set_option maxHeartbeats 2000000 in
theorem Rtold_calls (sb hb n : Nat) (first many : Int) (F : List Int) (ps : List PageS) (kd to : Int) (l : List (Int × Int)) (hpl : toldL kd to (allS ps) = l) (w : World) (B : Nat) (X : List Asr) (hH : Has w B (RStA sb hb n first many F ps :: X)) :
    Calls Try.prog 73 #[.pointer (some ⟨sb, 0, none⟩), .int .i64 kd, .int .i64 to] w fun e w' => ∃ ao cap, e = .returned (.slice ao l.length cap) ∧ Has w' B (row 46 2 (.slice ao l.length cap) l.length (atsL l) :: RStA sb hb n first many F ps :: X) ∧ Below B w w' := by
  obtain ⟨hP, fb, v, q, rfl, hl, hO⟩ := RStA.openX hH
  have HPL := hid hpl
  obtain ⟨i0, hi0, z0, z1, z2⟩ := info_parts infoAt
  have HP := hid hP
  obtain ⟨ao, cap, rfl, _⟩ := rstX_R hO
  have hN : Has w B (row 46 2 (.slice none 0 0) (toldL kd to (allS ((q.map Prod.snd).take 0))).length (atsL (toldL kd to (allS ((q.map Prod.snd).take 0)))) :: _) := hO.nilrow 46 2
  clear hH hP hpl
  go_enter Try.func73, Try.ntmps73
  go_wp2_with fail
  go_loopg [7, 8] q.length (fun g o i wr => ∃ (a : Nat) (V : Value), g + a = q.length ∧ o = V ∧ i = .int .i64 a ∧ Has wr B (row 46 2 V (toldL kd to (allS ((q.map Prod.snd).take a))).length (atsL (toldL kd to (allS ((q.map Prod.snd).take a)))) :: rstX sb hb fb (.slice ao q.length cap) first many F q X) ∧ Below B w wr)
  case atStart => exact ⟨0, .slice none 0 0, by omega, rfl, rfl, hN, Below.refl _ _⟩
  case round =>
    obtain ⟨a, V, ha, rfl, rfl, hV, bV⟩ := hrel
    clear hN hO
    obtain ⟨Vo, Vc, rfl, _, _, _⟩ := Has.row_form [] _ hV
    have HA1 := hid ha
    have c2 := hV.cell [_] _ 2 (v := .slice ao q.length cap) rfl
    by_cases hla : a < q.length
    · obtain ⟨x, hx⟩ : ∃ x, q[a]? = some x := ⟨_, List.getElem?_eq_getElem hla⟩
      have hx2 : (q.map Prod.snd)[a]? = some x.2 := by simp [hx]
      have h8 := HP.out.s8 x.2 (List.mem_of_getElem? hx2)
      have hal := allS_succ hx2 h8
      have hle : (allS ((q.map Prod.snd).take a)).length ≤ 2048 := by
        rw [allS_length (fun p hp => HP.out.s8 p (List.mem_of_mem_take hp)), List.length_take]
        simp
        omega
      have HX := hid hx
      have H8 := hid h8
      have HAL := hid hal
      have HLE := hid hle
      have hV6 : Has wr B (row 46 2 (.slice Vo (toldL kd to (allS ((q.map Prod.snd).take a) ++ slotsTo x.2 0)).length Vc) (toldL kd to (allS ((q.map Prod.snd).take a) ++ slotsTo x.2 0)).length (atsL (toldL kd to (allS ((q.map Prod.snd).take a) ++ slotsTo x.2 0))) :: rstX sb hb fb (.slice ao q.length cap) first many F q X) := by
        have e : slotsTo x.2 0 = [] := by simp [slotsTo]
        rw [e, List.append_nil]
        exact hV
      have hVe : (Value.slice Vo (toldL kd to (allS ((q.map Prod.snd).take a))).length Vc) = .slice Vo (toldL kd to (allS ((q.map Prod.snd).take a) ++ slotsTo x.2 0)).length Vc := by
        have e : slotsTo x.2 0 = [] := by simp [slotsTo]
        rw [e, List.append_nil]
      rw [hVe]
      obtain ⟨ga, hga⟩ : ∃ ga, ga = gk := ⟨_, rfl⟩
      have HGA := hid hga
      clear hx hx2 h8 hal hle hVe hV ha hga
      go_wp2_with fail
      clear c2
      go_loopg [7, 9] 8 (fun g o i' wr => ∃ (i : Nat) (V : Value), g + i = 8 ∧ o = V ∧ i' = .int .i64 i ∧ Has wr B (row 46 2 V (toldL kd to (allS ((q.map Prod.snd).take a) ++ slotsTo x.2 i)).length (atsL (toldL kd to (allS ((q.map Prod.snd).take a) ++ slotsTo x.2 i))) :: rstX sb hb fb (.slice ao q.length cap) first many F q X) ∧ Below B w wr)
      case atStart => exact ⟨0, _, by omega, rfl, rfl, hV6, bV⟩
      case round =>
        clear hV6 bV
        obtain ⟨i, V, hi, rfl, rfl, hV, bV⟩ := hrel
        obtain ⟨Wo, Wc, rfl, _, _, _⟩ := Has.row_form [] _ hV
        have HI := hid hi
        by_cases hli : i < 8
        · have hli' : (i : Int) < 8 := by omega
          obtain ⟨y, hy⟩ : ∃ y, x.2.s[i]? = some y := ⟨_, List.getElem?_eq_getElem (by have := H8.out; omega)⟩
          have hpre : allS ((q.map Prod.snd).take a) ++ slotsTo x.2 (i + 1) = (allS ((q.map Prod.snd).take a) ++ slotsTo x.2 i) ++ [((x.2.f, (i : Int)), y)] := by rw [slotsTo_succ hy, List.append_assoc]
          have hsn := toldL_snoc kd to (allS ((q.map Prod.snd).take a) ++ slotsTo x.2 i) ((x.2.f, (i : Int)), y)
          rw [← hpre] at hsn
          have hl1 : (toldL kd to (allS ((q.map Prod.snd).take a) ++ slotsTo x.2 i)).length ≤ 2056 := by
            refine Nat.le_trans (toldL_le _ _ _) ?_
            have := HLE.out
            rw [List.length_append, slotsTo_length x.2 i (by have := H8.out; omega)]
            omega
          obtain ⟨LI, hLI⟩ : ∃ L, toldL kd to (allS ((q.map Prod.snd).take a) ++ slotsTo x.2 i) = L := ⟨_, rfl⟩
          rw [hLI] at hsn hl1 hV ⊢
          have HSN := hid hsn
          have c2 := hV.cell [_] _ 2 (v := .slice ao q.length cap) rfl
          obtain ⟨ao2, cap2, he, hg⟩ := rstX_R hV.drop
          obtain ⟨g, rfl, hrow⟩ := hg (by omega)
          have ea : ao = some ⟨g, 0, none⟩ := by injection he
          subst ea
          obtain ⟨g2, cp2, he2, hcs⟩ := rst_slot hV.drop HX.out
          have c0 := (hrow a x HX.out).1
          have c4 := (hrow a x HX.out).2.2.2.2
          rw [he2] at c4
          have k0 := hcs i y hy 0 _ rfl
          have k1 := hcs i y hy 1 _ rfl
          rw [addr_add] at k0 k1
          have k0 : wr.cell? ⟨g2, i * 5, none⟩ = some (.int .i64 y.kd) := k0
          clear hy hpre hsn hLI he hg hrow he2 hcs hi
          by_cases hk : y.kd = kd
          · have e1 : (y.kd == kd) = true := by rw [beq_iff_eq]; exact hk
            by_cases ht : y.to = to
            · have e2 : (y.to == to) = true := by rw [beq_iff_eq]; exact ht
              have HT := hid (show tellB kd to y = true from by unfold tellB; rw [e1, e2]; rfl)
              clear hk ht
              go_wp2_with (at_builtin; refine wpList_append_row [] _ (hV.alloc _) rfl (.tmp 53) (.tmp 64) 38 rfl i0 (.agg #[.int .i64 0, .int .i64 0]) 16 Try.underlying38 hi0 z0 z1 z2 rfl (by decide) rfl ⟨wr.heap.size, 0, none⟩ 1 1 (atL (x.2.f, (i : Int))) rfl rfl (blk_adds [] _ (hV.newblk wr.heap.size 46 (atL (x.2.f, (i : Int))).toArray rfl)) (at_one _) (by decide) (by unfold maxLen; omega) (by omega) ?_; intro g3 cap3 w3 hH3 hB3)
              go_roundg (gk - 1)
              case measure => have := HI.out; omega
              case rel => exact ⟨i + 1, .slice (some ⟨g3, 0, none⟩) (LI.length + 1) cap3, by have := HI.out; omega, rfl, by go_num, by rw [HSN.out, HT.out]; exact rtold_step hH3, bV.trans ((below_new (Below.refl _ _) hV _).trans hB3)⟩
            · have e2 : (y.to == to) = false := by rw [beq_eq_false_iff_ne]; exact ht
              have HT := hid (show tellB kd to y = false from by unfold tellB; rw [e1, e2]; rfl)
              clear hk ht
              go_wp2_with fail
              go_roundg (gk - 1)
              case measure => have := HI.out; omega
              case rel => exact ⟨i + 1, _, by have := HI.out; omega, rfl, by go_num, by rw [HSN.out, HT.out]; exact rtold_stay hV, bV⟩
          · have e1 : (y.kd == kd) = false := by rw [beq_eq_false_iff_ne]; exact hk
            have HT := hid (show tellB kd to y = false from by unfold tellB; rw [e1]; rfl)
            clear hk
            go_wp2_with fail
            go_roundg (gk - 1)
            case measure => have := HI.out; omega
            case rel => exact ⟨i + 1, _, by have := HI.out; omega, rfl, by go_num, by rw [HSN.out, HT.out]; exact rtold_stay hV, bV⟩
        · obtain rfl : i = 8 := by omega
          rw [← HAL.out] at hV ⊢
          clear hi HI hli
          go_wp2_with fail
          go_roundg (ga - 1)
          case measure => have := HA1.out; have := HGA.out; omega
          case rel => exact ⟨a + 1, _, by have := HA1.out; have := HGA.out; omega, rfl, by go_num, hV, bV⟩
    · obtain rfl : a = q.length := by omega
      rw [List.take_of_length_le (by simp), HPL.out] at hV ⊢
      clear ha HA1 hla
      go_wp2_with fail
      go_ret
      exact ⟨_, _, rfl, fromRow q HP.out hV, bV⟩

end Go.Proofs.Yteeapkndappnoaa

/-
  Entries as values in a walk; the live question of layer 4.
-/
namespace Go.Proofs.Yteeapkndappnoaa
open Go.RowKit
set_option linter.unusedVariables false
set_option linter.unusedSimpArgs false

theorem pteC_inj {p q : PteS} (h : pteC p = pteC q) : p = q := by
  cases p; cases q; simp [pteC] at h; simp [h]

theorem pte_eql (p q : PteS) (w : World) : Sem.run Try.prog (binOp .eql 67 (.agg (pteC p)) (.agg (pteC q))) w = .ok (.bool (decide (p = q))) w := by
  have h := Try.underlying67
  have hb := Try.underlying4
  have hi := Try.underlying3
  have sb : (Try.prog.info? 4).map (fun i => i.size) = some 1 := by kernel_rfl
  have si : (Try.prog.info? 3).map (fun i => i.size) = some 1 := by kernel_rfl
  rw [run_eql_struct, run_equalIn_struct w 9999 67 _ _ (by rw [h]; kernel_rfl) (by kernel_rfl)]
  have hf : Try.prog.fieldsOf 67 = #[⟨"P", 4, 0, false, "", "", 0⟩, ⟨"W", 4, 1, false, "", "", 1⟩, ⟨"U", 4, 2, false, "", "", 2⟩, ⟨"A", 4, 3, false, "", "", 3⟩, ⟨"D", 4, 4, false, "", "", 4⟩, ⟨"PS", 4, 5, false, "", "", 5⟩, ⟨"NX", 4, 6, false, "", "", 6⟩, ⟨"Bad", 4, 7, false, "", "", 7⟩, ⟨"Frame", 3, 8, false, "", "", 8⟩] := by
    rw [Program.fieldsOf, h]
  rw [hf]
  obtain ⟨P, W, U, A, D, PS, NX, Bad, Frame⟩ := p
  obtain ⟨P', W', U', A', D', PS', NX', Bad', Frame'⟩ := q
  simp [Op.eqFields, pteC, go_sem, part]
  (repeat' split) <;> simp_all

theorem pte_neq (p q : PteS) (w : World) : Sem.run Try.prog (binOp .neq 67 (.agg (pteC p)) (.agg (pteC q))) w = .ok (.bool (!decide (p = q))) w := by
  have h := pte_eql p q w
  rw [run_eql_struct] at h
  simp only [binOp, Sem.run_bind, Op.equal, Op.maxDepth]
  revert h
  generalize (Op.equalIn 10000 67 (.agg (pteC p)) (.agg (pteC q))).run Try.prog w = r
  cases r with
  | ok b w' => intro h; simp at h ⊢; simp [h]
  | halt x w' => intro h; simp [Result.andThen] at h

theorem pte_bad (p : PteS) (w : World) : Sem.run Try.prog (Instr.field 67 (.agg (pteC p)) 7) w = .ok (.bool p.Bad) w := by
  have h := Try.underlying67
  simp [go_sem, pteC, Instr.field, part, asAgg]

theorem pte_size (p : PteS) : (Try.prog.info? 67).map (fun i => i.size) = some (pteC p).size := by kernel_rfl
theorem pte_one (p : PteS) : ∀ u ∈ (pteC p).toList, u.oneCell' = true := by simp [pteC, Value.oneCell']
/-- An entry's variable at its beginning. -/
def pteZE : Array Value := #[.bool false, .bool false, .bool false, .bool false, .bool false, .bool false, .bool false, .bool false, .int .i64 0]

/-- The cells of an entry that lies in memory. -/
theorem pte_cellsE {w : World} {B b : Nat} {T : TypeId} {p : PteS} (L1 L2 : List Asr) (hH : Has w B (L1 ++ blk b T (pteC p) :: L2)) :
    w.cell? ⟨b, 0, none⟩ = some (.bool p.P) ∧ w.cell? ⟨b, 1, none⟩ = some (.bool p.W) ∧ w.cell? ⟨b, 2, none⟩ = some (.bool p.U) ∧ w.cell? ⟨b, 3, none⟩ = some (.bool p.A) ∧ w.cell? ⟨b, 4, none⟩ = some (.bool p.D) ∧ w.cell? ⟨b, 5, none⟩ = some (.bool p.PS) ∧ w.cell? ⟨b, 6, none⟩ = some (.bool p.NX) ∧ w.cell? ⟨b, 7, none⟩ = some (.bool p.Bad) ∧ w.cell? ⟨b, 8, none⟩ = some (.int .i64 p.Frame) :=
  ⟨hH.cell L1 L2 0 rfl, hH.cell L1 L2 1 rfl, hH.cell L1 L2 2 rfl, hH.cell L1 L2 3 rfl, hH.cell L1 L2 4 rfl, hH.cell L1 L2 5 rfl, hH.cell L1 L2 6 rfl, hH.cell L1 L2 7 rfl, hH.cell L1 L2 8 rfl⟩

end Go.Proofs.Yteeapkndappnoaa

/-
  Contracts of the document's own answer to layer 4.
-/
namespace Go.Proofs.Yteeapkndappnoaa
open Go.RowKit
set_option linter.unusedVariables false
set_option linter.unusedSimpArgs false

theorem Rbit_calls (V n : Nat) (h : n < 64) (w : World) : Calls Try.prog 62 #[.int .u64 (V : Int), .int .i64 (n : Int)] w fun e w' => e = .returned (.bool (V.testBit n)) ∧ w = w' := by
  have hb : ((((V : Int) / 2 ^ n).tmod 2) == 1) = V.testBit n := by
    have e : ((V : Int) / 2 ^ n) = ((V / 2 ^ n : Nat) : Int) := by
      rw [Int.natCast_ediv, Int.natCast_pow]
      rfl
    rw [e]
    generalize hX : V / 2 ^ n = X
    rw [Nat.testBit_eq_decide_div_mod_eq, hX, Int.tmod_eq_emod_of_nonneg (by omega), Bool.eq_iff_iff, beq_iff_eq, decide_eq_true_eq]
    omega
  have hm : min n 64 = n := by omega
  generalize V.testBit n = r at *
  go_enter Try.func62, Try.ntmps62
  go_wp2
  go_ret
  exact ⟨by simp [hb], rfl⟩

theorem rshl_u64 : ∀ k : Nat, k < 64 → IntKind.u64.wrap (2 ^ k) = ((2 ^ k : Nat) : Int) := by decide +kernel
theorem Rone_calls (is : Bool) (n : Nat) (h : n < 64) (w : World) : Calls Try.prog 87 #[.bool is, .int .i64 (n : Int)] w fun e w' => e = .returned (.int .u64 ((bitN is (2 ^ n) : Nat) : Int)) ∧ w = w' := by
  cases is with
  | true =>
    have e : bitN true (2 ^ n) = 2 ^ n := rfl
    have hs := rshl_u64 n h
    rw [e]
    generalize ((2 ^ n : Nat) : Int) = X at *
    go_enter Try.func87, Try.ntmps87
    go_wp2
    go_ret
    exact ⟨by rw [← hs]; rfl, rfl⟩
  | false =>
    have e : bitN false (2 ^ n) = 0 := rfl
    rw [e]
    go_enter Try.func87, Try.ntmps87
    go_wp2
    go_ret
    exact ⟨rfl, rfl⟩

/-- To add what has no bit in common is to unite. -/
theorem add_or {a b : Nat} (ha : a < 18446744073709551616) (hb : b < 18446744073709551616) (h : ∀ i, a.testBit i = true → b.testBit i = true → False) : (a + b) % 18446744073709551616 = a ||| b := by
  have ma : a % 2 ^ 64 = a := Nat.mod_eq_of_lt (by simpa using ha)
  have mb : b % 2 ^ 64 = b := Nat.mod_eq_of_lt (by simpa using hb)
  have h0 : BitVec.ofNat 64 a &&& BitVec.ofNat 64 b = 0#64 := by
    apply BitVec.eq_of_toNat_eq
    rw [BitVec.toNat_and, BitVec.toNat_ofNat, BitVec.toNat_ofNat, ma, mb]
    apply Nat.eq_of_testBit_eq
    intro i
    rw [Nat.testBit_and]
    cases h1 : a.testBit i with
    | false => simp
    | true =>
      cases h2 : b.testBit i with
      | false => simp
      | true => exact (h i h1 h2).elim
  have h1 := congrArg BitVec.toNat (BitVec.add_eq_or_of_and_eq_zero _ _ h0)
  rw [BitVec.toNat_add, BitVec.toNat_or, BitVec.toNat_ofNat, BitVec.toNat_ofNat, ma, mb] at h1
  exact h1
theorem wrap_add_or {a b : Nat} (ha : a < 18446744073709551616) (hb : b < 18446744073709551616) (h : ∀ i, a.testBit i = true → b.testBit i = true → False) : IntKind.u64.wrap ((a : Int) + (b : Int)) = ((a ||| b : Nat) : Int) := by
  rw [← add_or ha hb h]
  show ((a : Int) + (b : Int)) % 18446744073709551616 = _
  omega

/-! ### Used -/
theorem add_bit {V n : Nat} (hV : V < 18446744073709551616) (hn : n < 64) (h : V.testBit n = false) : IntKind.u64.wrap ((V : Int) + ((2 ^ n : Nat) : Int)) = ((V ||| 2 ^ n : Nat) : Int) := by
  refine wrap_add_or hV (Nat.pow_lt_pow_right (by decide) hn) fun i h1 h2 => ?_
  rw [Nat.testBit_two_pow] at h2
  have : n = i := by simpa using h2
  rw [← this, h] at h1
  cases h1
theorem or_bit {V n : Nat} (h : V.testBit n = true) : V ||| 2 ^ n = V := by
  apply Nat.eq_of_testBit_eq
  intro i
  rw [Nat.testBit_or, Nat.testBit_two_pow]
  by_cases e : n = i
  · rw [← e, h]; rfl
  · simp [e]

end Go.Proofs.Yteeapkndappnoaa

/-
  Put of the document's own answer to layer 4.
-/
namespace Go.Proofs.Yteeapkndappnoaa
open Go.RowKit
set_option linter.unusedVariables false
set_option linter.unusedSimpArgs false

/-! ### Put -/
set_option maxHeartbeats 2000000 in
set_option maxRecDepth 100000 in
theorem RPut_sum (p : PteS) (x0 x1 x2 x3 x4 x5 x6 y1 y2 y3 y4 y5 y6 Z : Int) (w : World) (hBad : p.Bad = false) (h0 : 0 ≤ p.Frame) (h1 : p.Frame < 1048576)
    (c0 : ∀ W, Calls Try.prog 87 #[.bool p.P, .int .i64 0] W fun e w' => e = .returned (.int .u64 x0) ∧ W = w')
    (c1 : ∀ W, Calls Try.prog 87 #[.bool p.W, .int .i64 1] W fun e w' => e = .returned (.int .u64 x1) ∧ W = w')
    (c2 : ∀ W, Calls Try.prog 87 #[.bool p.U, .int .i64 2] W fun e w' => e = .returned (.int .u64 x2) ∧ W = w')
    (c3 : ∀ W, Calls Try.prog 87 #[.bool p.A, .int .i64 5] W fun e w' => e = .returned (.int .u64 x3) ∧ W = w')
    (c4 : ∀ W, Calls Try.prog 87 #[.bool p.D, .int .i64 6] W fun e w' => e = .returned (.int .u64 x4) ∧ W = w')
    (c5 : ∀ W, Calls Try.prog 87 #[.bool p.PS, .int .i64 7] W fun e w' => e = .returned (.int .u64 x5) ∧ W = w')
    (c6 : ∀ W, Calls Try.prog 87 #[.bool p.NX, .int .i64 63] W fun e w' => e = .returned (.int .u64 x6) ∧ W = w')
    (s1 : IntKind.u64.wrap (x0 + x1) = y1) (s2 : IntKind.u64.wrap (y1 + x2) = y2) (s3 : IntKind.u64.wrap (y2 + x3) = y3) (s4 : IntKind.u64.wrap (y3 + x4) = y4) (s5 : IntKind.u64.wrap (y4 + x5) = y5) (s6 : IntKind.u64.wrap (y5 + x6) = y6)
    (s7 : IntKind.u64.wrap (y6 + IntKind.u64.wrap (IntKind.u64.wrap p.Frame * 4096)) = Z) :
    Calls Try.prog 85 #[.agg (pteC p)] w fun e w' => e = .returned (.tuple #[.int .u64 Z, .bool true]) ∧ Below w.heap.size w w' := by
  have hH0 : Has w w.heap.size [] := Has.nil (Nat.le_refl _)
  have hN := hH0.newblk w.heap.size 67 (pteC p) rfl
  have hBN := below_new (Below.refl w.heap.size w) hH0 (.cells (pteC p) 67)
  obtain ⟨k0, k1, k2, k3, k4, k5, k6, k7, k8⟩ := pte_cellsE [] _ hN
  rw [hBad] at k7
  have e1 : decide (p.Frame < 0) = false := by rw [decide_eq_false_iff_not]; omega
  have e2 : decide (1048576 ≤ p.Frame) = false := by rw [decide_eq_false_iff_not]; omega
  clear hBad h0 h1 hH0 hN
  have C0 := hid c0
  have C1 := hid c1
  have C2 := hid c2
  have C3 := hid c3
  have C4 := hid c4
  have C5 := hid c5
  have C6 := hid c6
  have S := hid (And.intro s1 (And.intro s2 (And.intro s3 (And.intro s4 (And.intro s5 (And.intro s6 s7))))))
  clear c0 c1 c2 c3 c4 c5 c6 s1 s2 s3 s4 s5 s6 s7
  go_enter Try.func85, Try.ntmps85
  go_wp2_with fail
  go_quiet ((go_at_call 87; first
    | exact quiet_same (C0.out _)
    | exact quiet_same (C1.out _)
    | exact quiet_same (C2.out _)
    | exact quiet_same (C3.out _)
    | exact quiet_same (C4.out _)
    | exact quiet_same (C5.out _)
    | exact quiet_same (C6.out _)))
  go_wp2_with fail
  go_ret2
  obtain ⟨s1, s2, s3, s4, s5, s6, s7⟩ := S.out
  exact ⟨by rw [← s7, ← s6, ← s5, ← s4, ← s3, ← s2, ← s1]; rfl, below_drewN hBN _⟩

theorem bitN_lt (b : Bool) (n : Nat) (h : n < 64) : bitN b (2 ^ n) < 18446744073709551616 := by
  cases b
  · simp [bitN]
  · exact Nat.pow_lt_pow_right (by decide) h
theorem bit_off {b : Bool} {n i : Nat} (h : (bitN b (2 ^ n)).testBit i = true) : n = i := by
  rw [bitN_bit] at h
  rw [Bool.and_eq_true, decide_eq_true_eq] at h
  exact h.2

theorem or_lt64 {a b : Nat} (ha : a < 18446744073709551616) (hb : b < 18446744073709551616) : a ||| b < 18446744073709551616 := Nat.or_lt_two_pow (n := 64) (by simpa using ha) (by simpa using hb)

theorem RPut_ok (p : PteS) (w : World) (h : putOk p = true) : Calls Try.prog 85 #[.agg (pteC p)] w fun e w' => e = .returned (.tuple #[.int .u64 ((putN p : Nat) : Int), .bool true]) ∧ Below w.heap.size w w' := by
  obtain ⟨hb, h0, h1⟩ := (putOk_iff p).1 h
  have hF : p.Frame.toNat < 1048576 := by omega
  have l0 := bitN_lt p.P 0 (by decide)
  have l1 := bitN_lt p.W 1 (by decide)
  have l2 := bitN_lt p.U 2 (by decide)
  have l3 := bitN_lt p.A 5 (by decide)
  have l4 := bitN_lt p.D 6 (by decide)
  have l5 := bitN_lt p.PS 7 (by decide)
  have l6 := bitN_lt p.NX 63 (by decide)
  have m1 := or_lt64 l0 l1
  have m2 := or_lt64 m1 l2
  have m3 := or_lt64 m2 l3
  have m4 := or_lt64 m3 l4
  have m5 := or_lt64 m4 l5
  have m6 := or_lt64 m5 l6
  have lF : p.Frame.toNat * 4096 < 18446744073709551616 := by omega
  have s7 : IntKind.u64.wrap (IntKind.u64.wrap p.Frame * 4096) = ((p.Frame.toNat * 4096 : Nat) : Int) := by
    have : IntKind.u64.wrap p.Frame = p.Frame := by show p.Frame % 18446744073709551616 = _; omega
    rw [this]
    show (p.Frame * 4096) % 18446744073709551616 = _
    omega
  have e : bitN p.P (2 ^ 0) ||| bitN p.W (2 ^ 1) ||| bitN p.U (2 ^ 2) ||| bitN p.A (2 ^ 5) ||| bitN p.D (2 ^ 6) ||| bitN p.PS (2 ^ 7) ||| bitN p.NX (2 ^ 63) ||| p.Frame.toNat * 4096 = putN p := by
    apply Nat.eq_of_testBit_eq
    intro i
    rw [putN_bit, show p.Frame.toNat * 4096 = p.Frame.toNat <<< 12 from by rw [Nat.shiftLeft_eq]]
    simp only [Nat.testBit_or, bitN_bit, Nat.testBit_shiftLeft]
    cases (decide (12 ≤ i) && p.Frame.toNat.testBit (i - 12)) <;> simp
  refine RPut_sum p _ _ _ _ _ _ _ _ _ _ _ _ _ _ w hb h0 h1 (fun W => Rone_calls p.P 0 (by decide) W) (fun W => Rone_calls p.W 1 (by decide) W) (fun W => Rone_calls p.U 2 (by decide) W) (fun W => Rone_calls p.A 5 (by decide) W) (fun W => Rone_calls p.D 6 (by decide) W) (fun W => Rone_calls p.PS 7 (by decide) W) (fun W => Rone_calls p.NX 63 (by decide) W)
    (wrap_add_or l0 l1 ?_) (wrap_add_or m1 l2 ?_) (wrap_add_or m2 l3 ?_) (wrap_add_or m3 l4 ?_) (wrap_add_or m4 l5 ?_) (wrap_add_or m5 l6 ?_) ?_
  · intro i a b
    have := bit_off a; have := bit_off b; omega
  · intro i a b
    have := bit_off b
    rw [Nat.testBit_or, Bool.or_eq_true] at a
    rcases a with a | a <;> (have := bit_off a; omega)
  · intro i a b
    have := bit_off b
    simp only [Nat.testBit_or, Bool.or_eq_true] at a
    rcases a with (a | a) | a <;> (have := bit_off a; omega)
  · intro i a b
    have := bit_off b
    simp only [Nat.testBit_or, Bool.or_eq_true] at a
    rcases a with ((a | a) | a) | a <;> (have := bit_off a; omega)
  · intro i a b
    have := bit_off b
    simp only [Nat.testBit_or, Bool.or_eq_true] at a
    rcases a with (((a | a) | a) | a) | a <;> (have := bit_off a; omega)
  · intro i a b
    have := bit_off b
    simp only [Nat.testBit_or, Bool.or_eq_true] at a
    rcases a with ((((a | a) | a) | a) | a) | a <;> (have := bit_off a; omega)
  · rw [s7, wrap_add_or m6 lF ?_, e]
    intro i a b
    rw [show p.Frame.toNat * 4096 = p.Frame.toNat <<< 12 from by rw [Nat.shiftLeft_eq], Nat.testBit_shiftLeft, Bool.and_eq_true, decide_eq_true_eq] at b
    obtain ⟨b1, b2⟩ := b
    have hi : i < 32 := by
      by_cases h : i < 32
      · exact h
      · rw [low_frame hF (i - 12) (by omega)] at b2
        cases b2
    simp only [Nat.testBit_or, Bool.or_eq_true] at a
    rcases a with (((((a | a) | a) | a) | a) | a) | a <;> (have := bit_off a; omega)

theorem RPut_no (p : PteS) (w : World) (h : putOk p = false) : Calls Try.prog 85 #[.agg (pteC p)] w fun e w' => e = .returned (.tuple #[.int .u64 0, .bool false]) ∧ Below w.heap.size w w' := by
  have hB := (Below.refl w.heap.size w).alloc (Nat.le_refl _) (.cells (pteC p) 67)
  obtain ⟨P, W, U, A, D, PS, NX, Bad, Frame⟩ := p
  cases Bad with
  | true =>
    go_enter Try.func85, Try.ntmps85
    simp only [pteC] at hB ⊢
    go_wp2
    go_ret2
    exact ⟨rfl, hB⟩
  | false =>
    by_cases h1 : Frame < 0
    · have e1 : decide (Frame < 0) = true := by simpa using h1
      clear h
      go_enter Try.func85, Try.ntmps85
      simp only [pteC] at hB ⊢
      go_wp2
      go_ret2
      exact ⟨rfl, hB⟩
    · have e1 : decide (Frame < 0) = false := by simpa using h1
      have h2 : 1048576 ≤ Frame := by
        simp [putOk] at h
        omega
      have e2 : decide (1048576 ≤ Frame) = true := by simpa using h2
      clear h
      go_enter Try.func85, Try.ntmps85
      simp only [pteC] at hB ⊢
      go_wp2
      go_ret2
      exact ⟨rfl, hB⟩

theorem RPut_calls (p : PteS) (w : World) : Calls Try.prog 85 #[.agg (pteC p)] w fun e w' => e = .returned (putR p) ∧ Below w.heap.size w w' := by
  cases h : putOk p with
  | false =>
    have e : putR p = .tuple #[.int .u64 0, .bool false] := by simp [putR, h]
    rw [e]
    exact RPut_no p w h
  | true =>
    have e : putR p = .tuple #[.int .u64 ((putN p : Nat) : Int), .bool true] := by simp [putR, h]
    rw [e]
    exact RPut_ok p w h

end Go.Proofs.Yteeapkndappnoaa

/-
  The document's store: Parents, Leaves; what a slot's change does to what it holds.
-/
namespace Go.Proofs.Yteeapkndappnoaa
open Go.RowKit Go.Shelf
set_option linter.unusedVariables false
set_option linter.unusedSimpArgs false

set_option maxHeartbeats 400000 in
theorem RParents_calls (sb hb n : Nat) (first many : Int) (F : List Int) (ps : List PageS) (to : Int) (l : List (Int × Int)) (hpl : toldL 1 to (allS ps) = l) (w : World) (B : Nat) (X : List Asr) (hH : Has w B (RStA sb hb n first many F ps :: X)) :
    Calls Try.prog 41 #[.pointer (some ⟨sb, 0, none⟩), .int .i64 to] w fun e w' => ∃ ao cap, e = .returned (.slice ao l.length cap) ∧ Has w' B (row 46 2 (.slice ao l.length cap) l.length (atsL l) :: RStA sb hb n first many F ps :: X) ∧ Below B w w' := by
  have CT := hid (Rtold_calls sb hb n first many F ps 1 to l hpl w B X hH)
  clear hH hpl
  go_enter Try.func41, Try.ntmps41
  go_wp2_with fail
  refine CT.out.mono ?_
  rintro e w' ⟨ao, cap, rfl, h1, h2⟩
  go_wp2_with fail
  go_ret
  exact ⟨_, _, rfl, h1, h2⟩
set_option maxHeartbeats 400000 in
theorem RLeaves_calls (sb hb n : Nat) (first many : Int) (F : List Int) (ps : List PageS) (to : Int) (l : List (Int × Int)) (hpl : toldL 2 to (allS ps) = l) (w : World) (B : Nat) (X : List Asr) (hH : Has w B (RStA sb hb n first many F ps :: X)) :
    Calls Try.prog 42 #[.pointer (some ⟨sb, 0, none⟩), .int .i64 to] w fun e w' => ∃ ao cap, e = .returned (.slice ao l.length cap) ∧ Has w' B (row 46 2 (.slice ao l.length cap) l.length (atsL l) :: RStA sb hb n first many F ps :: X) ∧ Below B w w' := by
  have CT := hid (Rtold_calls sb hb n first many F ps 2 to l hpl w B X hH)
  clear hH hpl
  go_enter Try.func42, Try.ntmps42
  go_wp2_with fail
  refine CT.out.mono ?_
  rintro e w' ⟨ao, cap, rfl, h1, h2⟩
  go_wp2_with fail
  go_ret
  exact ⟨_, _, rfl, h1, h2⟩

/-! ### a slot is set -/
/-- The document's Put gives the slot's word. -/
theorem rput_word (y : SlotS) (h : Int) (hk : ¬ y.kd = 0) (w : World) : ∃ b, Calls Try.prog 85 #[.agg (pteC (pteOf y h))] w fun e w' => e = .returned (.tuple #[.int .u64 (wordOf y h), .bool b]) ∧ Below w.heap.size w w' := by
  refine ⟨putOk (pteOf y h), ?_⟩
  have e : putR (pteOf y h) = .tuple #[.int .u64 (wordOf y h), .bool (putOk (pteOf y h))] := by
    unfold putR wordOf
    rw [if_neg hk]
  rw [← e]
  exact RPut_calls (pteOf y h) w
/-- All cells of a page's slots. -/
theorem rst_slots {sb hb fb : Nat} {v : Value} {first many : Int} {F : List Int} {q : List (Value × PageS)} {w : World} {B : Nat} {X : List Asr} (hH : Has w B (rstX sb hb fb v first many F q X)) {j : Nat} {x : Value × PageS} (hx : q[j]? = some x) {g cap : Nat} (he : x.1 = .slice (some ⟨g, 0, none⟩) 8 cap) :
    ∀ i u, (slotsL x.2.s)[i]? = some u → w.cell? ((⟨g, 0, none⟩ : Addr).add i) = some u := by
  have h := rst_row hH hx
  rw [he] at h
  intro i u hu
  exact Has.row_part _ _ h 0 (slotsL x.2.s) (fun k u hu => by rw [Nat.zero_add]; exact hu) i u hu
/-- The slice of slots of one page is another: its cell. -/
theorem rpgsL_set {q : List (Value × PageS)} : ∀ {j : Nat} {x : Value × PageS}, q[j]? = some x → ∀ (v : Value) (s : List SlotS), (rpgsL q).set (j * 5 + 4) v = rpgsL (q.set j (v, { x.2 with s := s })) := by
  induction q with
  | nil => intro j x h; simp at h
  | cons y q ih =>
    intro j x h v s
    cases j with
    | zero =>
      simp at h
      subst h
      simp [rpgsL, rpgL]
    | succ j =>
      have e : rpgsL (y :: q) = rpgL y ++ rpgsL q := rfl
      have e2 : rpgsL ((y :: q).set (j + 1) (v, { x.2 with s := s })) = rpgL y ++ rpgsL (q.set j (v, { x.2 with s := s })) := rfl
      rw [e, e2, ← ih (by simpa using h) v s, List.set_append_right _ _ (by show 5 ≤ _; omega)]
      congr 2
      show (j + 1) * 5 + 4 - 5 = _
      omega
/-- Five cells of the slots are those of another slot. -/
theorem slotsL_put {l : List SlotS} : ∀ {i : Nat}, i < l.length → ∀ y : SlotS, (slotsL l).take (i * 5) ++ slotL y ++ (slotsL l).drop (i * 5 + 5) = slotsL (l.set i y) := by
  induction l with
  | nil => intro i h; simp at h
  | cons z l ih =>
    intro i h y
    cases i with
    | zero => simp [slotsL, slotL]
    | succ i =>
      have e : slotsL (z :: l) = slotL z ++ slotsL l := rfl
      have e2 : slotsL ((z :: l).set (i + 1) y) = slotL z ++ slotsL (l.set i y) := rfl
      have hz : (slotL z).length = 5 := rfl
      rw [e, e2, ← ih (by simpa using h) y, List.take_append, List.drop_append, hz, List.take_of_length_le (by rw [hz]; omega), List.drop_of_length_le (l := slotL z) (by rw [hz]; omega), show (i + 1) * 5 - 5 = i * 5 from by omega, show (i + 1) * 5 + 5 - 5 = i * 5 + 5 from by omega]
      simp
theorem rws_set {q : List (Value × PageS)} {j : Nat} {x : Value × PageS} (h : q[j]? = some x) (z : Value × PageS) : rws (q.set j z) = rws (q.take j) ++ row 42 5 z.1 8 (slotsL z.2.s) :: rws (q.drop (j + 1)) := by
  have hl := (List.getElem?_eq_some_iff.1 h).1
  have h1 : (q.set j z)[j]? = some z := by simp [hl]
  rw [rws_split h1]
  congr 2
  · rw [List.take_set]
    exact List.set_eq_of_length_le (by rw [List.length_take]; omega)
  · rw [List.drop_set]
    simp
/-- The new slots' row takes the place of the old one. -/
theorem rst_swap {sb hb fb : Nat} {v : Value} {first many : Int} {F : List Int} {q : List (Value × PageS)} {w : World} {B : Nat} {X : List Asr} {j : Nat} {x : Value × PageS} (hx : q[j]? = some x) (u : Value) (s : List SlotS)
    (hH : Has w B (row 42 5 u 8 (slotsL s) :: blk sb 114 #[ptrV hb, ptrV fb, v] :: row 116 5 v q.length ((rpgsL q).set (j * 5 + 4) u) :: RefA fb first many F :: (rws q ++ X))) :
    Has w B (rstX sb hb fb v first many F (q.set j (u, { x.2 with s := s })) X) := by
  rw [rpgsL_set hx u s, rws_split hx] at hH
  unfold rstX
  rw [rws_set hx, List.length_set]
  have h1 : Has w B (([row 42 5 u 8 (slotsL s), blk sb 114 #[ptrV hb, ptrV fb, v], row 116 5 v q.length (rpgsL (q.set j (u, { x.2 with s := s }))), RefA fb first many F] ++ rws (q.take j)) ++ row 42 5 x.1 8 (slotsL x.2.s) :: (rws (q.drop (j + 1)) ++ X)) := by
    simpa using hH
  have h2 := (Has.front _ _ h1).drop
  have h3 : Has w B (row 42 5 u 8 (slotsL s) :: ((blk sb 114 #[ptrV hb, ptrV fb, v] :: row 116 5 v q.length (rpgsL (q.set j (u, { x.2 with s := s }))) :: RefA fb first many F :: rws (q.take j)) ++ (rws (q.drop (j + 1)) ++ X))) := by
    simpa using h2
  have h4 := Has.back _ _ h3
  simpa using h4

end Go.Proofs.Yteeapkndappnoaa

/-
  The document's store: set.
-/
namespace Go.Proofs.Yteeapkndappnoaa
open Go.RowKit Go.Shelf
set_option linter.unusedVariables false
set_option linter.unusedSimpArgs false

theorem infoSlotR : (Try.prog.info? 42).map (fun i => (i.zero, i.size, i.bytes)) = some (some (.agg #[.int .i64 0, .int .i64 0, .bool false, .bool false, .bool false]), 5, 24) := by kernel_rfl
theorem slotsL_len (l : List SlotS) : (slotsL l).length = l.length * 5 := flat_length slotL 5 (fun _ => rfl) l
theorem slotsL_one (l : List SlotS) : ∀ u ∈ slotsL l, u.oneCell' = true := by
  intro u hu
  unfold slotsL at hu
  obtain ⟨y, _, hy⟩ := List.mem_flatMap.1 hu
  exact slot_one y u (by simpa using hy)
theorem rpg_at {q : List (Value × PageS)} {j : Nat} {x : Value × PageS} (h : q[j]? = some x) : (rpgsL q)[j * 5 + 4]? = some x.1 := by
  rw [rpgsL, flat_get rpgL 5 (fun _ => rfl) q j 4 x h (by omega)]
  rfl
theorem Has.frozen4 {w : World} {B g cap n size : Nat} {T : TypeId} {xs : List Value} {A C D : Asr} {X : List Asr} (h : Has w B ([A, C, D] ++ row T size (.slice (some ⟨g, 0, none⟩) n cap) n xs :: X)) (k : Nat) : w.frozen? ⟨g, k, none⟩ = false := Has.row_frozen [_, _, _] _ h k
theorem Has.rowB {w : World} {B g cap n size : Nat} {T : TypeId} {xs : List Value} {A C D : Asr} {X : List Asr} (h : Has w B ([A, C, D] ++ row T size (.slice (some ⟨g, 0, none⟩) n cap) n xs :: X)) : B ≤ g := by
  rcases Has.row_shape [_, _, _] _ h with ⟨h1, _⟩ | ⟨g', cap', h1, _, _, h3, _⟩
  · cases h1
  · cases h1
    exact h3
theorem rst_three {sb hb fb g m cap : Nat} {first many : Int} {F : List Int} {q : List (Value × PageS)} {w : World} {B : Nat} {A : Asr} {X : List Asr} (h : Has w B (A :: rstX sb hb fb (.slice (some ⟨g, 0, none⟩) m cap) first many F q X)) {j : Nat} {x : Value × PageS} (hx : q[j]? = some x) :
    w.cell? ⟨sb, 0, none⟩ = some (.pointer (some ⟨hb, 0, none⟩)) ∧ w.cell? ⟨sb, 2, none⟩ = some (.slice (some ⟨g, 0, none⟩) m cap) ∧ w.cell? ⟨g, j * 5, none⟩ = some (.int .i64 x.2.f) := by
  refine ⟨h.cell [_] _ 0 (v := ptrV hb) rfl, h.cell [_] _ 2 (v := .slice (some ⟨g, 0, none⟩) m cap) rfl, ?_⟩
  obtain ⟨ao, cp, he, hg⟩ := rstX_R h.drop
  obtain ⟨g', hgg, hrow⟩ := hg (by have := (List.getElem?_eq_some_iff.1 hx).1; omega)
  have e : g' = g := by
    injection he with h1 h2 h3
    rw [hgg] at h1
    injection h1 with h1
    injection h1 with h1 h2 h3
    exact h1.symm
  rw [← e]
  exact (hrow j x hx).1
theorem slotC_one (y : SlotS) : ∀ u ∈ (slotC y).toList, u.oneCell' = true := by simp [slotC, Value.oneCell']

set_option maxHeartbeats 2000000 in
set_option maxRecDepth 100000 in
theorem Rset_calls (sb hb n fb : Nat) (v : Value) (first many : Int) (F W : List Int) (q : List (Value × PageS)) (j i : Nat) (p : PageS) (xv : Value) (y : SlotS) (h : Int) (hq : q.length ≤ 256) (hx : q[j]? = some (xv, p)) (hp8 : p.s.length = 8) (hi : i < 8) (w : World) (B : Nat) (X : List Asr) (hH : Has w B (rstX sb hb fb v first many F q (RMemA hb n W :: X))) :
    Calls Try.prog 81 #[.pointer (some ⟨sb, 0, none⟩), .int .i64 (j : Int), .int .i64 (i : Int), .agg (slotC y), .int .i64 h] w fun e w' => e = .returned (.tuple #[]) ∧ (∃ u, Has w' B (rstX sb hb fb v first many F (q.set j (u, { p with s := p.s.set i y })) (RMemA hb n (setW W n p.f i (wordOf y h)) :: X))) ∧ Below B w w' := by
  obtain ⟨g2, cp2, he, _⟩ := rst_slot hH hx
  dsimp only at he
  subst he
  obtain ⟨ao, cap, rfl, hg⟩ := rstX_R hH
  have hjl : j < q.length := (List.getElem?_eq_some_iff.1 hx).1
  obtain ⟨g, rfl, _⟩ := hg (by omega)
  have hjl' : (j : Int) < (q.length : Int) := by omega
  have hi' : (i : Int) < 8 := by omega
  obtain ⟨i0, hi0, z0, z1, z2⟩ := info_parts infoSlotR
  obtain ⟨bb, hbb⟩ : ∃ bb, w.heap.size = bb := ⟨_, rfl⟩
  obtain ⟨w1, hw1⟩ : ∃ w1, w.alloc (.cells (slotC y) 42) = w1 := ⟨_, rfl⟩
  have hN := hH.newblk bb 42 (slotC y) hbb
  have bN := below_new (Below.refl B w) hH (.cells (slotC y) 42)
  rw [hw1] at hN bN
  have HX := hid hx
  have HP8 := hid hp8
  have b0 := hN.cell [] _ 0 (v := .int .i64 y.kd) rfl
  clear hH hg hx hp8
  by_cases hk : y.kd = 0
  · have e1 : (y.kd == 0) = true := by rw [beq_iff_eq]; exact hk
    have e1' : (y.kd != 0) = false := by rw [hk]; rfl
    have HWO := hid (show wordOf y h = 0 from by unfold wordOf; rw [if_pos hk])
    rw [HWO.out]
    clear hk
    have hM := hN
    have bM := bN
    have hA := hM.newrow w1.heap.size 42 5 rfl
    have bA := below_new bM hM (.cells #[] 42)
    have c2 := hA.cell [_, _] _ 2 (v := .slice (some ⟨g, 0, none⟩) q.length cap) rfl
    obtain ⟨ao3, cap3, he3, hg3⟩ := rstX_R hA.drop.drop
    obtain ⟨g', hgg, hrow⟩ := hg3 (by omega)
    have hgg2 : g = g' := by
      injection he3 with h1 h2 h3
      rw [hgg] at h1
      injection h1 with h1
      injection h1 with h1 h2 h3
    subst hgg2
    have c4 := (hrow j _ HX.out).2.2.2.2
    have HSC := hid (rst_slots hA.drop.drop HX.out rfl)
    clear he3 hg3 hrow hgg
    clear hN bN
    go_enter Try.func81, Try.ntmps81
    go_wp2_with (first
      | (at_builtin; refine wpList_append_rows [] _ hA rfl (.tmp 34) (.tmp 42) 51 rfl i0 (.agg #[.int .i64 0, .int .i64 0, .bool false, .bool false, .bool false]) 24 Try.underlying51 hi0 z0 z1 z2 rfl (by decide) rfl (some ⟨g2, 0, none⟩) 8 cp2 (slotsL p.s) rfl (fun h => by cases h) (by rw [slotsL_len, HP8.out]) (fun ad had => by injection had with had; subst had; exact HSC.out) (slotsL_one _) (by unfold maxLen; omega) (by omega) ?_; intro g3 cap4 w3 hH3 hB3; have bC := bA.trans hB3; have hH3 : Has w3 B (row 42 5 (.slice (some ⟨g3, 0, none⟩) 8 cap4) 8 (slotsL p.s) :: blk bb 42 (slotC y) :: rstX sb hb fb (.slice (some ⟨g, 0, none⟩) q.length cap) first many F q (RMemA hb n W :: X)) := by simpa using hH3)
      | (refine wpList_load_blk [_] _ hH3 42 (.tmp 8) rfl rfl rfl _ Try.underlying42 rfl slot_size ?_)
      | (refine wpList_store_row [] _ hH3 42 (.tmp 47) (.tmp 46) rfl rfl (i * 5) rfl (slotC y) rfl slot_size (by rw [slotsL_len, HP8.out]; show i * 5 + 5 ≤ _; omega) (slotC_one y) ?_; intro w4 hH4 hB4 hz4; clear hz4; have bD := bC.trans hB4; have hH4 : Has w4 B ([row 42 5 (.slice (some ⟨g3, 0, none⟩) 8 cap4) 8 (slotsL (p.s.set i y)), blk bb 42 (slotC y), blk sb 114 #[ptrV hb, ptrV fb, .slice (some ⟨g, 0, none⟩) q.length cap]] ++ row 116 5 (.slice (some ⟨g, 0, none⟩) q.length cap) q.length (rpgsL q) :: (RefA fb first many F :: (rws q ++ RMemA hb n W :: X))) := (by rw [← slotsL_put (l := p.s) (i := i) (by have := HP8.out; omega) y]; exact hH4); have d2 := hH4.cell [_, _] _ 2 (v := .slice (some ⟨g, 0, none⟩) q.length cap) rfl; have d4 := Has.frozen4 hH4 (j * 5 + 4); have d5 := Has.row_cell [_, _, _] _ hH4 (j * 5 + 4) (u := .slice (some ⟨g2, 0, none⟩) 8 cp2) (rpg_at HX.out); have hH5 := Has.row_set [_, _, _] _ hH4 (j * 5 + 4) (by rw [rpgsL_length]; omega) (.slice (some ⟨g3, 0, none⟩) 8 cap4); have bE := bD.setCell (p := ⟨g, j * 5 + 4, none⟩) (Has.rowB hH4) (.slice (some ⟨g3, 0, none⟩) 8 cap4)))
    generalize (w4.setCell ⟨g, j * 5 + 4, none⟩ (.slice (some ⟨g3, 0, none⟩) 8 cap4)) = w5 at *
    have hH7 := rst_swap HX.out _ _ (Has.front [_] _ hH5).drop
    have HQJ := hid (show (q.set j (Value.slice (some ⟨g3, 0, none⟩) 8 cap4, { p with s := p.s.set i y }))[j]? = some (Value.slice (some ⟨g3, 0, none⟩) 8 cap4, { p with s := p.s.set i y }) from by simp [hjl])
    have hD := (rstX_out hH7).drew
    have bF := bE.drew
    have s0 := rst_three hD (j := j) HQJ.out
    clear d2 d4 d5 hH4 hH3 hA hM
    refine wp_region_held_drew (S := fun U => U.cell? ⟨sb, 0, none⟩ = some (.pointer (some ⟨hb, 0, none⟩)) ∧ U.cell? ⟨sb, 2, none⟩ = some (.slice (some ⟨g, 0, none⟩) q.length cap) ∧ U.cell? ⟨g, j * 5, none⟩ = some (.int .i64 p.f)) (by kernel_rfl) ?_ (fun hHeld => ?_)
    · exact s0
    refine wpAnyH_take (i := 0) (oi := ?oi0a) (v := ?v0a) ?hi0a (by kernel_rfl) (by kernel_rfl) (by kernel_rfl) ?hQ0a ?hy0a (by assumption) ?rest0a
    case hi0a => simp only [List.getElem?_toArray, List.getElem?_cons_succ, List.getElem?_cons_zero]; rfl
    case hQ0a => exact fun _ _ _ h => h
    case hy0a => refine Or.inl ⟨by rfl, ?_⟩; intro w hSw; (try dsimp only at hSw); go_simp; try with_reducible rfl
    try simp only [Act.put, List.setIfInBounds_toArray, List.set_cons_zero, List.set_cons_succ]
    refine wpAnyH_take (i := 1) (oi := ?oi1a) (v := ?v1a) ?hi1a (by kernel_rfl) (by kernel_rfl) (by kernel_rfl) ?hQ1a ?hy1a (by assumption) ?rest1a
    case hi1a => simp only [List.getElem?_toArray, List.getElem?_cons_succ, List.getElem?_cons_zero]; rfl
    case hQ1a => exact fun _ _ _ h => h
    case hy1a => refine Or.inl ⟨by rfl, ?_⟩; intro w hSw; (try dsimp only at hSw); go_simp; try with_reducible rfl
    try simp only [Act.put, List.setIfInBounds_toArray, List.set_cons_zero, List.set_cons_succ]
    refine wpAnyH_take (i := 2) (oi := ?oi2a) (v := ?v2a) ?hi2a (by kernel_rfl) (by kernel_rfl) (by kernel_rfl) ?hQ2a ?hy2a (by assumption) ?rest2a
    case hi2a => simp only [List.getElem?_toArray, List.getElem?_cons_succ, List.getElem?_cons_zero]; rfl
    case hQ2a => exact fun _ _ _ h => h
    case hy2a => refine Or.inl ⟨by rfl, ?_⟩; intro w hSw; (try dsimp only at hSw); go_simp; try with_reducible rfl
    try simp only [Act.put, List.setIfInBounds_toArray, List.set_cons_zero, List.set_cons_succ]
    refine wpAnyH_take (i := 3) (oi := ?oi3a) (v := ?v3a) ?hi3a (by kernel_rfl) (by kernel_rfl) (by kernel_rfl) ?hQ3a ?hy3a (by assumption) ?rest3a
    case hi3a => simp only [List.getElem?_toArray, List.getElem?_cons_succ, List.getElem?_cons_zero]; rfl
    case hQ3a => exact fun _ _ _ h => h
    case hy3a => refine Or.inl ⟨by rfl, ?_⟩; intro w hSw; (try dsimp only at hSw); go_simp; try with_reducible rfl
    try simp only [Act.put, List.setIfInBounds_toArray, List.set_cons_zero, List.set_cons_succ]
    refine wpAnyH_take (i := 4) (oi := ?oi4a) (v := ?v4a) ?hi4a (by kernel_rfl) (by kernel_rfl) (by kernel_rfl) ?hQ4a ?hy4a (by assumption) ?rest4a
    case hi4a => simp only [List.getElem?_toArray, List.getElem?_cons_succ, List.getElem?_cons_zero]; rfl
    case hQ4a => exact fun _ _ _ h => h
    case hy4a => refine Or.inl ⟨by rfl, ?_⟩; intro w hSw; (try dsimp only at hSw); go_simp; try with_reducible rfl
    try simp only [Act.put, List.setIfInBounds_toArray, List.set_cons_zero, List.set_cons_succ]
    refine wpAnyH_take (i := 5) (oi := ?oi5a) (v := ?v5a) ?hi5a (by kernel_rfl) (by kernel_rfl) (by kernel_rfl) ?hQ5a ?hy5a (by assumption) ?rest5a
    case hi5a => simp only [List.getElem?_toArray, List.getElem?_cons_succ, List.getElem?_cons_zero]; rfl
    case hQ5a => exact fun _ _ _ h => h
    case hy5a => refine Or.inl ⟨by rfl, ?_⟩; intro w hSw; (try dsimp only at hSw); go_simp; try with_reducible rfl
    try simp only [Act.put, List.setIfInBounds_toArray, List.set_cons_zero, List.set_cons_succ]
    refine wpAnyH_take (i := 6) (oi := ?oi6a) (v := ?v6a) ?hi6a (by kernel_rfl) (by kernel_rfl) (by kernel_rfl) ?hQ6a ?hy6a (by assumption) ?rest6a
    case hi6a => simp only [List.getElem?_toArray, List.getElem?_cons_succ, List.getElem?_cons_zero]; rfl
    case hQ6a => exact fun _ _ _ h => h
    case hy6a => refine Or.inl ⟨by rfl, ?_⟩; intro w hSw; (try dsimp only at hSw); go_simp; try with_reducible rfl
    try simp only [Act.put, List.setIfInBounds_toArray, List.set_cons_zero, List.set_cons_succ]
    refine wpAnyH_take (i := 7) (oi := ?oi7a) (v := ?v7a) ?hi7a (by kernel_rfl) (by kernel_rfl) (by kernel_rfl) ?hQ7a ?hy7a (by assumption) ?rest7a
    case hi7a => simp only [List.getElem?_toArray, List.getElem?_cons_succ, List.getElem?_cons_zero]; rfl
    case hQ7a => exact fun _ _ _ h => h
    case hy7a => refine Or.inl ⟨by rfl, ?_⟩; intro w hSw; (try dsimp only at hSw); go_simp; try with_reducible rfl
    try simp only [Act.put, List.setIfInBounds_toArray, List.set_cons_zero, List.set_cons_succ]
    refine wpAnyH_take (i := 8) (oi := ?oi8a) (v := ?v8a) ?hi8a (by kernel_rfl) (by kernel_rfl) (by kernel_rfl) ?hQ8a ?hy8a (by assumption) ?rest8a
    case hi8a => simp only [List.getElem?_toArray, List.getElem?_cons_succ, List.getElem?_cons_zero]; rfl
    case hQ8a => exact fun _ _ _ h => h
    case hy8a => refine Or.inl ⟨by rfl, ?_⟩; intro w hSw; (try dsimp only at hSw); go_simp; try with_reducible rfl
    try simp only [Act.put, List.setIfInBounds_toArray, List.set_cons_zero, List.set_cons_succ]
    refine wpAnyH_take (i := 9) (oi := ?oi9a) (v := ?v9a) ?hi9a (by kernel_rfl) (by kernel_rfl) (by kernel_rfl) ?hQ9a ?hy9a (by assumption) ?rest9a
    case hi9a => simp only [List.getElem?_toArray, List.getElem?_cons_succ, List.getElem?_cons_zero]; rfl
    case hQ9a => exact fun _ _ _ h => h
    case hy9a => refine Or.inl ⟨by rfl, ?_⟩; intro w hSw; (try dsimp only at hSw); go_simp; try with_reducible rfl
    try simp only [Act.put, List.setIfInBounds_toArray, List.set_cons_zero, List.set_cons_succ]
    refine wpAnyH_take (i := 10) (oi := ?oi10a) (v := ?v10a) ?hi10a (by kernel_rfl) (by kernel_rfl) (by kernel_rfl) ?hQ10a ?hy10a (by assumption) ?rest10a
    case hi10a => simp only [List.getElem?_toArray, List.getElem?_cons_succ, List.getElem?_cons_zero]; rfl
    case hQ10a => exact fun _ _ _ h => h
    case hy10a => refine Or.inl ⟨by rfl, ?_⟩; intro w hSw; (try dsimp only at hSw); go_simp; try with_reducible rfl
    try simp only [Act.put, List.setIfInBounds_toArray, List.set_cons_zero, List.set_cons_succ]
    refine wpAnyH_take (i := 11) (oi := ?oi11a) (v := ?v11a) ?hi11a (by kernel_rfl) (by kernel_rfl) (by kernel_rfl) ?hQ11a ?hy11a (by assumption) ?rest11a
    case hi11a => simp only [List.getElem?_toArray, List.getElem?_cons_succ, List.getElem?_cons_zero]; rfl
    case hQ11a => exact fun _ _ _ h => h
    case hy11a => refine Or.inl ⟨by rfl, ?_⟩; intro w hSw; (try dsimp only at hSw); go_simp; try with_reducible rfl
    try simp only [Act.put, List.setIfInBounds_toArray, List.set_cons_zero, List.set_cons_succ]
    refine wpAnyH_take (i := 12) (oi := ?oi12a) (v := ?v12a) ?hi12a (by kernel_rfl) (by kernel_rfl) (by kernel_rfl) ?hQ12a ?hy12a (by assumption) ?rest12a
    case hi12a => simp only [List.getElem?_toArray, List.getElem?_cons_succ, List.getElem?_cons_zero]; rfl
    case hQ12a => exact fun _ _ _ h => h
    case hy12a => refine Or.inl ⟨by rfl, ?_⟩; intro w hSw; (try dsimp only at hSw); go_simp; try with_reducible rfl
    try simp only [Act.put, List.setIfInBounds_toArray, List.set_cons_zero, List.set_cons_succ]
    refine wpAnyH_take (i := 13) (oi := ?oi13a) (v := ?v13a) ?hi13a (by kernel_rfl) (by kernel_rfl) (by kernel_rfl) ?hQ13a ?hy13a (by assumption) ?rest13a
    case hi13a => simp only [List.getElem?_toArray, List.getElem?_cons_succ, List.getElem?_cons_zero]; rfl
    case hQ13a => exact fun _ _ _ h => h
    case hy13a => refine Or.inl ⟨by rfl, ?_⟩; intro w hSw; (try dsimp only at hSw); go_simp; try with_reducible rfl
    try simp only [Act.put, List.setIfInBounds_toArray, List.set_cons_zero, List.set_cons_succ]
    refine wpAnyH_ready (rs := [14]) (by kernel_rfl) (by simp) ?_
    refine AllReadyH.cons rfl (fun K hK => ?_) AllReadyH.nil
    go_simp
    go_at_call 80
    (with_reducible refine (RSet_calls hb n W p.f i _ _ _ _ hD).mono ?_)
    rintro e w6 ⟨rfl, hH6, hB6⟩
    have s1 := rst_three hH6 (j := j) HQJ.out
    dsimp only
    refine hK.out _ _ ?_ (fun hHeld => ?_)
    · exact s1
    clear hK K
    try simp only [Act.put, List.setIfInBounds_toArray, List.set_cons_zero, List.set_cons_succ]
    refine wpAnyH_done (by kernel_rfl) ?_ _
    go_wp2_with fail
    (try simp only [Exit.inBlock, Exit.then])
    first
      | refine bodyPost_end (results_none rfl _ _ _) rfl ?_
      | refine bodyPost_ret (results_none rfl _ _ _) rfl ?_
    exact ⟨rfl, ⟨_, rstX_in hH6⟩, bF.trans hB6⟩
  · have e1 : (y.kd == 0) = false := by rw [beq_eq_false_iff_ne]; exact hk
    have e1' : (y.kd != 0) = true := by simpa using hk
    have b2 := hN.cell [] _ 2 (v := .bool y.w) rfl
    have b3 := hN.cell [] _ 3 (v := .bool y.u) rfl
    have b4 := hN.cell [] _ 4 (v := .bool y.x) rfl
    obtain ⟨pb, hpb⟩ := rput_word y h hk w1
    have CP := hid (keeps hpb hN)
    obtain ⟨V, hV⟩ : ∃ V, wordOf y h = V := ⟨_, rfl⟩
    rw [hV] at CP ⊢
    clear hk hpb hV
    go_enter Try.func81, Try.ntmps81
    go_wp2_with fail
    refine CP.out.mono ?_
    rintro e wm ⟨rfl, hM, bM⟩
    have bM := bN.trans bM
    clear CP hN b0 b2 b3 b4
    have hA := hM.newrow wm.heap.size 42 5 rfl
    have bA := below_new bM hM (.cells #[] 42)
    have c2 := hA.cell [_, _] _ 2 (v := .slice (some ⟨g, 0, none⟩) q.length cap) rfl
    obtain ⟨ao3, cap3, he3, hg3⟩ := rstX_R hA.drop.drop
    obtain ⟨g', hgg, hrow⟩ := hg3 (by omega)
    have hgg2 : g = g' := by
      injection he3 with h1 h2 h3
      rw [hgg] at h1
      injection h1 with h1
      injection h1 with h1 h2 h3
    subst hgg2
    have c4 := (hrow j _ HX.out).2.2.2.2
    have HSC := hid (rst_slots hA.drop.drop HX.out rfl)
    clear he3 hg3 hrow hgg
    go_wp2_with (first
      | (at_builtin; refine wpList_append_rows [] _ hA rfl (.tmp 34) (.tmp 42) 51 rfl i0 (.agg #[.int .i64 0, .int .i64 0, .bool false, .bool false, .bool false]) 24 Try.underlying51 hi0 z0 z1 z2 rfl (by decide) rfl (some ⟨g2, 0, none⟩) 8 cp2 (slotsL p.s) rfl (fun h => by cases h) (by rw [slotsL_len, HP8.out]) (fun ad had => by injection had with had; subst had; exact HSC.out) (slotsL_one _) (by unfold maxLen; omega) (by omega) ?_; intro g3 cap4 w3 hH3 hB3; have bC := bA.trans hB3; have hH3 : Has w3 B (row 42 5 (.slice (some ⟨g3, 0, none⟩) 8 cap4) 8 (slotsL p.s) :: blk bb 42 (slotC y) :: rstX sb hb fb (.slice (some ⟨g, 0, none⟩) q.length cap) first many F q (RMemA hb n W :: X)) := by simpa using hH3)
      | (refine wpList_load_blk [_] _ hH3 42 (.tmp 8) rfl rfl rfl _ Try.underlying42 rfl slot_size ?_)
      | (refine wpList_store_row [] _ hH3 42 (.tmp 47) (.tmp 46) rfl rfl (i * 5) rfl (slotC y) rfl slot_size (by rw [slotsL_len, HP8.out]; show i * 5 + 5 ≤ _; omega) (slotC_one y) ?_; intro w4 hH4 hB4 hz4; clear hz4; have bD := bC.trans hB4; have hH4 : Has w4 B ([row 42 5 (.slice (some ⟨g3, 0, none⟩) 8 cap4) 8 (slotsL (p.s.set i y)), blk bb 42 (slotC y), blk sb 114 #[ptrV hb, ptrV fb, .slice (some ⟨g, 0, none⟩) q.length cap]] ++ row 116 5 (.slice (some ⟨g, 0, none⟩) q.length cap) q.length (rpgsL q) :: (RefA fb first many F :: (rws q ++ RMemA hb n W :: X))) := (by rw [← slotsL_put (l := p.s) (i := i) (by have := HP8.out; omega) y]; exact hH4); have d2 := hH4.cell [_, _] _ 2 (v := .slice (some ⟨g, 0, none⟩) q.length cap) rfl; have d4 := Has.frozen4 hH4 (j * 5 + 4); have d5 := Has.row_cell [_, _, _] _ hH4 (j * 5 + 4) (u := .slice (some ⟨g2, 0, none⟩) 8 cp2) (rpg_at HX.out); have hH5 := Has.row_set [_, _, _] _ hH4 (j * 5 + 4) (by rw [rpgsL_length]; omega) (.slice (some ⟨g3, 0, none⟩) 8 cap4); have bE := bD.setCell (p := ⟨g, j * 5 + 4, none⟩) (Has.rowB hH4) (.slice (some ⟨g3, 0, none⟩) 8 cap4)))
    generalize (w4.setCell ⟨g, j * 5 + 4, none⟩ (.slice (some ⟨g3, 0, none⟩) 8 cap4)) = w5 at *
    have hH7 := rst_swap HX.out _ _ (Has.front [_] _ hH5).drop
    have HQJ := hid (show (q.set j (Value.slice (some ⟨g3, 0, none⟩) 8 cap4, { p with s := p.s.set i y }))[j]? = some (Value.slice (some ⟨g3, 0, none⟩) 8 cap4, { p with s := p.s.set i y }) from by simp [hjl])
    have hD := (rstX_out hH7).drew
    have bF := bE.drew
    have s0 := rst_three hD (j := j) HQJ.out
    clear d2 d4 d5 hH4 hH3 hA hM
    refine wp_region_held_drew (S := fun U => U.cell? ⟨sb, 0, none⟩ = some (.pointer (some ⟨hb, 0, none⟩)) ∧ U.cell? ⟨sb, 2, none⟩ = some (.slice (some ⟨g, 0, none⟩) q.length cap) ∧ U.cell? ⟨g, j * 5, none⟩ = some (.int .i64 p.f)) (by kernel_rfl) ?_ (fun hHeld => ?_)
    · exact s0
    refine wpAnyH_take (i := 0) (oi := ?oi0b) (v := ?v0b) ?hi0b (by kernel_rfl) (by kernel_rfl) (by kernel_rfl) ?hQ0b ?hy0b (by assumption) ?rest0b
    case hi0b => simp only [List.getElem?_toArray, List.getElem?_cons_succ, List.getElem?_cons_zero]; rfl
    case hQ0b => exact fun _ _ _ h => h
    case hy0b => refine Or.inl ⟨by rfl, ?_⟩; intro w hSw; (try dsimp only at hSw); go_simp; try with_reducible rfl
    try simp only [Act.put, List.setIfInBounds_toArray, List.set_cons_zero, List.set_cons_succ]
    refine wpAnyH_take (i := 1) (oi := ?oi1b) (v := ?v1b) ?hi1b (by kernel_rfl) (by kernel_rfl) (by kernel_rfl) ?hQ1b ?hy1b (by assumption) ?rest1b
    case hi1b => simp only [List.getElem?_toArray, List.getElem?_cons_succ, List.getElem?_cons_zero]; rfl
    case hQ1b => exact fun _ _ _ h => h
    case hy1b => refine Or.inl ⟨by rfl, ?_⟩; intro w hSw; (try dsimp only at hSw); go_simp; try with_reducible rfl
    try simp only [Act.put, List.setIfInBounds_toArray, List.set_cons_zero, List.set_cons_succ]
    refine wpAnyH_take (i := 2) (oi := ?oi2b) (v := ?v2b) ?hi2b (by kernel_rfl) (by kernel_rfl) (by kernel_rfl) ?hQ2b ?hy2b (by assumption) ?rest2b
    case hi2b => simp only [List.getElem?_toArray, List.getElem?_cons_succ, List.getElem?_cons_zero]; rfl
    case hQ2b => exact fun _ _ _ h => h
    case hy2b => refine Or.inl ⟨by rfl, ?_⟩; intro w hSw; (try dsimp only at hSw); go_simp; try with_reducible rfl
    try simp only [Act.put, List.setIfInBounds_toArray, List.set_cons_zero, List.set_cons_succ]
    refine wpAnyH_take (i := 3) (oi := ?oi3b) (v := ?v3b) ?hi3b (by kernel_rfl) (by kernel_rfl) (by kernel_rfl) ?hQ3b ?hy3b (by assumption) ?rest3b
    case hi3b => simp only [List.getElem?_toArray, List.getElem?_cons_succ, List.getElem?_cons_zero]; rfl
    case hQ3b => exact fun _ _ _ h => h
    case hy3b => refine Or.inl ⟨by rfl, ?_⟩; intro w hSw; (try dsimp only at hSw); go_simp; try with_reducible rfl
    try simp only [Act.put, List.setIfInBounds_toArray, List.set_cons_zero, List.set_cons_succ]
    refine wpAnyH_take (i := 4) (oi := ?oi4b) (v := ?v4b) ?hi4b (by kernel_rfl) (by kernel_rfl) (by kernel_rfl) ?hQ4b ?hy4b (by assumption) ?rest4b
    case hi4b => simp only [List.getElem?_toArray, List.getElem?_cons_succ, List.getElem?_cons_zero]; rfl
    case hQ4b => exact fun _ _ _ h => h
    case hy4b => refine Or.inl ⟨by rfl, ?_⟩; intro w hSw; (try dsimp only at hSw); go_simp; try with_reducible rfl
    try simp only [Act.put, List.setIfInBounds_toArray, List.set_cons_zero, List.set_cons_succ]
    refine wpAnyH_take (i := 5) (oi := ?oi5b) (v := ?v5b) ?hi5b (by kernel_rfl) (by kernel_rfl) (by kernel_rfl) ?hQ5b ?hy5b (by assumption) ?rest5b
    case hi5b => simp only [List.getElem?_toArray, List.getElem?_cons_succ, List.getElem?_cons_zero]; rfl
    case hQ5b => exact fun _ _ _ h => h
    case hy5b => refine Or.inl ⟨by rfl, ?_⟩; intro w hSw; (try dsimp only at hSw); go_simp; try with_reducible rfl
    try simp only [Act.put, List.setIfInBounds_toArray, List.set_cons_zero, List.set_cons_succ]
    refine wpAnyH_take (i := 6) (oi := ?oi6b) (v := ?v6b) ?hi6b (by kernel_rfl) (by kernel_rfl) (by kernel_rfl) ?hQ6b ?hy6b (by assumption) ?rest6b
    case hi6b => simp only [List.getElem?_toArray, List.getElem?_cons_succ, List.getElem?_cons_zero]; rfl
    case hQ6b => exact fun _ _ _ h => h
    case hy6b => refine Or.inl ⟨by rfl, ?_⟩; intro w hSw; (try dsimp only at hSw); go_simp; try with_reducible rfl
    try simp only [Act.put, List.setIfInBounds_toArray, List.set_cons_zero, List.set_cons_succ]
    refine wpAnyH_take (i := 7) (oi := ?oi7b) (v := ?v7b) ?hi7b (by kernel_rfl) (by kernel_rfl) (by kernel_rfl) ?hQ7b ?hy7b (by assumption) ?rest7b
    case hi7b => simp only [List.getElem?_toArray, List.getElem?_cons_succ, List.getElem?_cons_zero]; rfl
    case hQ7b => exact fun _ _ _ h => h
    case hy7b => refine Or.inl ⟨by rfl, ?_⟩; intro w hSw; (try dsimp only at hSw); go_simp; try with_reducible rfl
    try simp only [Act.put, List.setIfInBounds_toArray, List.set_cons_zero, List.set_cons_succ]
    refine wpAnyH_take (i := 8) (oi := ?oi8b) (v := ?v8b) ?hi8b (by kernel_rfl) (by kernel_rfl) (by kernel_rfl) ?hQ8b ?hy8b (by assumption) ?rest8b
    case hi8b => simp only [List.getElem?_toArray, List.getElem?_cons_succ, List.getElem?_cons_zero]; rfl
    case hQ8b => exact fun _ _ _ h => h
    case hy8b => refine Or.inl ⟨by rfl, ?_⟩; intro w hSw; (try dsimp only at hSw); go_simp; try with_reducible rfl
    try simp only [Act.put, List.setIfInBounds_toArray, List.set_cons_zero, List.set_cons_succ]
    refine wpAnyH_take (i := 9) (oi := ?oi9b) (v := ?v9b) ?hi9b (by kernel_rfl) (by kernel_rfl) (by kernel_rfl) ?hQ9b ?hy9b (by assumption) ?rest9b
    case hi9b => simp only [List.getElem?_toArray, List.getElem?_cons_succ, List.getElem?_cons_zero]; rfl
    case hQ9b => exact fun _ _ _ h => h
    case hy9b => refine Or.inl ⟨by rfl, ?_⟩; intro w hSw; (try dsimp only at hSw); go_simp; try with_reducible rfl
    try simp only [Act.put, List.setIfInBounds_toArray, List.set_cons_zero, List.set_cons_succ]
    refine wpAnyH_take (i := 10) (oi := ?oi10b) (v := ?v10b) ?hi10b (by kernel_rfl) (by kernel_rfl) (by kernel_rfl) ?hQ10b ?hy10b (by assumption) ?rest10b
    case hi10b => simp only [List.getElem?_toArray, List.getElem?_cons_succ, List.getElem?_cons_zero]; rfl
    case hQ10b => exact fun _ _ _ h => h
    case hy10b => refine Or.inl ⟨by rfl, ?_⟩; intro w hSw; (try dsimp only at hSw); go_simp; try with_reducible rfl
    try simp only [Act.put, List.setIfInBounds_toArray, List.set_cons_zero, List.set_cons_succ]
    refine wpAnyH_take (i := 11) (oi := ?oi11b) (v := ?v11b) ?hi11b (by kernel_rfl) (by kernel_rfl) (by kernel_rfl) ?hQ11b ?hy11b (by assumption) ?rest11b
    case hi11b => simp only [List.getElem?_toArray, List.getElem?_cons_succ, List.getElem?_cons_zero]; rfl
    case hQ11b => exact fun _ _ _ h => h
    case hy11b => refine Or.inl ⟨by rfl, ?_⟩; intro w hSw; (try dsimp only at hSw); go_simp; try with_reducible rfl
    try simp only [Act.put, List.setIfInBounds_toArray, List.set_cons_zero, List.set_cons_succ]
    refine wpAnyH_take (i := 12) (oi := ?oi12b) (v := ?v12b) ?hi12b (by kernel_rfl) (by kernel_rfl) (by kernel_rfl) ?hQ12b ?hy12b (by assumption) ?rest12b
    case hi12b => simp only [List.getElem?_toArray, List.getElem?_cons_succ, List.getElem?_cons_zero]; rfl
    case hQ12b => exact fun _ _ _ h => h
    case hy12b => refine Or.inl ⟨by rfl, ?_⟩; intro w hSw; (try dsimp only at hSw); go_simp; try with_reducible rfl
    try simp only [Act.put, List.setIfInBounds_toArray, List.set_cons_zero, List.set_cons_succ]
    refine wpAnyH_take (i := 13) (oi := ?oi13b) (v := ?v13b) ?hi13b (by kernel_rfl) (by kernel_rfl) (by kernel_rfl) ?hQ13b ?hy13b (by assumption) ?rest13b
    case hi13b => simp only [List.getElem?_toArray, List.getElem?_cons_succ, List.getElem?_cons_zero]; rfl
    case hQ13b => exact fun _ _ _ h => h
    case hy13b => refine Or.inl ⟨by rfl, ?_⟩; intro w hSw; (try dsimp only at hSw); go_simp; try with_reducible rfl
    try simp only [Act.put, List.setIfInBounds_toArray, List.set_cons_zero, List.set_cons_succ]
    refine wpAnyH_ready (rs := [14]) (by kernel_rfl) (by simp) ?_
    refine AllReadyH.cons rfl (fun K hK => ?_) AllReadyH.nil
    go_simp
    go_at_call 80
    (with_reducible refine (RSet_calls hb n W p.f i _ _ _ _ hD).mono ?_)
    rintro e w6 ⟨rfl, hH6, hB6⟩
    have s1 := rst_three hH6 (j := j) HQJ.out
    dsimp only
    refine hK.out _ _ ?_ (fun hHeld => ?_)
    · exact s1
    clear hK K
    try simp only [Act.put, List.setIfInBounds_toArray, List.set_cons_zero, List.set_cons_succ]
    refine wpAnyH_done (by kernel_rfl) ?_ _
    go_wp2_with fail
    (try simp only [Exit.inBlock, Exit.then])
    first
      | refine bodyPost_end (results_none rfl _ _ _) rfl ?_
      | refine bodyPost_ret (results_none rfl _ _ _) rfl ?_
    exact ⟨rfl, ⟨_, rstX_in hH6⟩, bF.trans hB6⟩

end Go.Proofs.Yteeapkndappnoaa
