/-
  The live question of layer 13.
-/
import Derived.Test.YtkgijfodjmkhgaaConfRef2
namespace Go.Proofs.Ytkgijfodjmkhgaa
open Go.RowKit
set_option linter.unusedVariables false
set_option linter.unusedSimpArgs false

def confZ : Array Value := #[.int .i64 0, .slice none 0 0, .int .i64 0, .int .i64 0, .int .i64 0, .int .i64 0, .int .i64 0]
theorem infoConf : (Try.prog.info? 24).map (fun i => (i.zero, i.size, i.bytes)) = some (some (.agg confZ), 7, 72) := by kernel_rfl
theorem conf_size {c : ConfS} : (Try.prog.info? 24).map (·.size) = some (confC c).toArray.size := by
  show _ = some 7
  kernel_rfl

theorem len51 : ([5, 1] : List Int).length ≤ 1000 := by decide
theorem len54 : ([5, 4] : List Int).length ≤ 1000 := by decide
theorem wf51 : ∀ x ∈ ([5, 1] : List Int), (Lit.int .i64 x).wf = true := by decide
theorem wf54 : ∀ x ∈ ([5, 4] : List Int), (Lit.int .i64 x).wf = true := by decide
def hcC (s : Nat) : ConfS := ⟨8, some ⟨s, 0, none⟩, [5, 1], 2, 2, 3, 4, 2, 1⟩
def hcA (s : Nat) : ConfS := ⟨8, some ⟨s, 0, none⟩, [5, 1], 2, 3, 3, 4, 2, 1⟩
def hcB (s : Nat) : ConfS := ⟨8, some ⟨s, 0, none⟩, [5, 4], 2, 2, 3, 4, 2, 1⟩
def hcD (s : Nat) : ConfS := ⟨8, some ⟨s, 0, none⟩, [5, 1], 2, 2, 3, 0, 2, 1⟩
def hcZ : ConfS := ⟨0, none, [], 0, 0, 0, 0, 0, 0⟩
theorem hokC (s : Nat) : decide (okC (hcC s)) = true := by kernel_rfl
theorem hokA (s : Nat) : decide (okC (hcA s)) = false := by kernel_rfl
theorem hokB (s : Nat) : decide (okC (hcB s)) = false := by kernel_rfl
theorem hokD (s : Nat) : decide (okC (hcD s)) = false := by kernel_rfl
theorem hokZ : decide (okC hcZ) = false := by kernel_rfl
theorem himC (s : Nat) : allC (hcC s) 1 = [1, 5] := by kernel_rfl
theorem hfoC (s : Nat) : allC (hcC s) 0 = [0, 6, 7] := by kernel_rfl

/-- Right, at a literal machine whose answer is known. -/
theorem RightIs (c : ConfS) {b : Bool} (hb : decide (okC c) = b) (w : World) {B : Nat} {X : List Asr} (hH : Has w B X) (hs : Src w c.a c.l) :
    Calls Try.prog 10 #[.agg (confC c).toArray] w fun e w' => e = .returned (.bool b) ∧ Has w' B X ∧ Below B w w' := by
  subst hb
  exact keeps (Right_calls c w hs) hH

set_option maxHeartbeats 4000000 in
set_option maxRecDepth 100000 in
theorem head_true : Does Try.prog 9 #[] [] (fun _ : Unit => .bool true) (fun _ => []) := by
  intro w B X hH
  have hH0 : Has w B X := hH
  obtain ⟨i0, hi0, hz0, hz1, hz2⟩ := info_parts infoConf
  clear hH
  obtain ⟨s0, hs0⟩ : ∃ s0, w.heap.size = s0 := ⟨_, rfl⟩
  have hS0 := hH0.newblk s0 3 ([5, 1].map (Value.int .i64)).toArray hs0
  have hB0 := below_new (Below.refl B w) hH0 (.cells ([5, 1].map (Value.int .i64)).toArray 3)
  have hsz1 : (w.alloc (.cells ([5, 1].map (Value.int .i64)).toArray 3)).heap.size = s0 + 1 := by rw [World.size_alloc, hs0]
  have tok1 : True := trivial
  have hH00 := hS0
  have hH0 := hS0
  clear hS0
  have hsz0 : (w.alloc (.cells ([5, 1].map (Value.int .i64)).toArray 3)).heap.size = s0 + 1 := hsz1
  clear hsz1 hH00
  go_enter Try.func9, Try.ntmps9
  go_wp2_with (first
    | (have _t := tok1; refine wpList_store_all [] _ (hH0.newblk (s0 + 1) 24 confZ hsz0) 24 (.tmp 1) (.tmp 6) rfl rfl rfl (confC (hcC s0)).toArray rfl conf_size rfl (confC_one _) ?_; clear _t tok1; intro w1 hH1 hB1' hz; have hB1 := hB0.trans ((below_new (Below.refl _ _) hH0 _).trans hB1'); have hsz1 : w1.heap.size = s0 + 2 := hz.trans (by simp [hs0, hsz0]); clear hz hB1'; have tok2 : True := trivial)
    | (refine wpList_load_blk [] _ hH1 24 (.tmp 1) rfl rfl rfl _ Try.underlying24 rfl conf_size ?_)
    | (have _t := tok2; refine wpList_store_all [] _ (hH1.newblk (s0 + 2) 24 confZ hsz1) 24 (.tmp 2) (.tmp 7) rfl rfl rfl (confC (hcC s0)).toArray rfl conf_size rfl (confC_one _) ?_; clear _t tok2; intro w2 hH2 hB2' hz; have hB2 := hB1.trans ((below_new (Below.refl _ _) hH1 _).trans hB2'); have hsz2 : w2.heap.size = s0 + 3 := hz.trans (by simp [hs0, hsz1]); clear hz hB2'; have f2 := hH2.frozen [] _ 2; have k2 := hH2.cell [] _ 2 (v := .int .i64 2) rfl; have hH3 : Has (w2.setCell ⟨s0 + 2, 2, none⟩ (.int .i64 3)) B (blk (s0 + 2) 24 (confC (hcA s0)).toArray :: _) := hH2.set [] _ 2 (.int .i64 3); have hB3 := below_set hB2 [] _ hH2 2 (.int .i64 3); have hsz3 : (w2.setCell ⟨s0 + 2, 2, none⟩ (.int .i64 3)).heap.size = s0 + 3 := (by simp [hsz2]); have tok3 : True := trivial)
    | (refine wpList_load_blk [_] _ hH3 24 (.tmp 1) rfl rfl rfl _ Try.underlying24 rfl conf_size ?_)
    | (have _t := tok3; refine wpList_store_all [] _ (hH3.newblk (s0 + 3) 24 confZ hsz3) 24 (.tmp 3) (.tmp 9) rfl rfl rfl (confC (hcC s0)).toArray rfl conf_size rfl (confC_one _) ?_; clear _t tok3; intro w4 hH4 hB4' hz; have hB4 := hB3.trans ((below_new (Below.refl _ _) hH3 _).trans hB4'); have hsz4 : w4.heap.size = s0 + 4 := hz.trans (by simp [hs0, hsz3, hsz2]); clear hz hB4'; have f4 := hH4.frozen [] _ 1; have k4 := hH4.cell [] _ 1 (v := .slice (some ⟨s0, 0, none⟩) 2 2) rfl; have hH5 : Has (w4.setCell ⟨s0 + 3, 1, none⟩ (.slice (some ⟨s0 + 4, 0, none⟩) 2 2)) B (blk (s0 + 3) 24 (confC (hcB (s0 + 4))).toArray :: _) := hH4.set [] _ 1 (.slice (some ⟨s0 + 4, 0, none⟩) 2 2); have hB5 := below_set hB4 [] _ hH4 1 (.slice (some ⟨s0 + 4, 0, none⟩) 2 2); have hsz5 : (w4.setCell ⟨s0 + 3, 1, none⟩ (.slice (some ⟨s0 + 4, 0, none⟩) 2 2)).heap.size = s0 + 4 := (by simp [hsz4]); have hH6 := hH5.newblk (s0 + 4) 3 ([5, 4].map (Value.int .i64)).toArray hsz5; have hB6 := below_new hB5 hH5 (.cells ([5, 4].map (Value.int .i64)).toArray 3); have hsz6 : ((w4.setCell ⟨s0 + 3, 1, none⟩ (.slice (some ⟨s0 + 4, 0, none⟩) 2 2)).alloc (.cells ([5, 4].map (Value.int .i64)).toArray 3)).heap.size = s0 + 5 := (by simp [hsz4]); have tok4 : True := trivial)
    | (refine wpList_load_blk [_, _, _] _ hH6 24 (.tmp 1) rfl rfl rfl _ Try.underlying24 rfl conf_size ?_)
    | (have _t := tok4; refine wpList_store_all [] _ (hH6.newblk (s0 + 5) 24 confZ hsz6) 24 (.tmp 4) (.tmp 12) rfl rfl rfl (confC (hcC s0)).toArray rfl conf_size rfl (confC_one _) ?_; clear _t tok4; intro w7 hH7 hB7' hz; have hB7 := hB6.trans ((below_new (Below.refl _ _) hH6 _).trans hB7'); have hsz7 : w7.heap.size = s0 + 6 := hz.trans (by simp [hs0, hsz6, hsz4]); clear hz hB7'; have f6 := hH7.frozen [] _ 4; have k6 := hH7.cell [] _ 4 (v := .int .i64 4) rfl; have hH8 : Has (w7.setCell ⟨s0 + 5, 4, none⟩ (.int .i64 0)) B (blk (s0 + 5) 24 (confC (hcD s0)).toArray :: _) := hH7.set [] _ 4 (.int .i64 0); have hB8 := below_set hB7 [] _ hH7 4 (.int .i64 0))
    | (refine wpList_load_blk [_, _, _, _] _ hH8 24 (.tmp 1) rfl rfl rfl _ Try.underlying24 rfl conf_size ?_))
  clear hs0 hsz0 hB0 hH0
  refine (RightIs (hcC s0) (hokC s0) _ hH8 (src_blk (L1 := [_, _, _, _, _]) hH8 len51 wf51)).mono ?_
  rintro e w9 ⟨rfl, hH9, hB9⟩
  have hB9 := hB8.trans hB9
  clear hH8 hB8
  go_wp2_with (refine wpList_load_blk [_, _, _] _ hH9 24 (.tmp 2) rfl rfl rfl _ Try.underlying24 rfl conf_size ?_)
  refine (RightIs (hcA s0) (hokA s0) _ hH9 (src_blk (L1 := [_, _, _, _, _]) hH9 len51 wf51)).mono ?_
  rintro e w10 ⟨rfl, hH10, hB10⟩
  have hB10 := hB9.trans hB10
  clear hH9 hB9
  go_wp2_with (refine wpList_load_blk [_, _] _ hH10 24 (.tmp 3) rfl rfl rfl _ Try.underlying24 rfl conf_size ?_)
  refine (RightIs (hcB (s0 + 4)) (hokB (s0 + 4)) _ hH10 (src_blk (L1 := [_]) hH10 len54 wf54)).mono ?_
  rintro e w11 ⟨rfl, hH11, hB11⟩
  have hB11 := hB10.trans hB11
  clear hH10 hB10
  go_wp2_with (refine wpList_load_blk [] _ hH11 24 (.tmp 4) rfl rfl rfl _ Try.underlying24 rfl conf_size ?_)
  refine (RightIs (hcD s0) (hokD s0) _ hH11 (src_blk (L1 := [_, _, _, _, _]) hH11 len51 wf51)).mono ?_
  rintro e w12 ⟨rfl, hH12, hB12⟩
  have hB12 := hB11.trans hB12
  clear hH11 hB11
  go_wp2_with (refine wpList_load_blk [_, _, _, _] _ hH12 24 (.tmp 1) rfl rfl rfl _ Try.underlying24 rfl conf_size ?_)
  refine (Image_calls (hcC s0) _ (src_blk (L1 := [_, _, _, _, _]) hH12 len51 wf51)).mono ?_
  intro e w13 h
  obtain ⟨v, rfl, hH, hB⟩ := h.at hH12
  rw [himC] at hH
  have hB13 := hB12.trans hB
  obtain ⟨ao, cp, rfl, _, _, _⟩ := hH.row_form [] _
  have hH13 : Has w13 B (row 3 1 (.slice ao 2 cp) 2 ([1, 5].map (Value.int .i64)) :: _) := hH
  have hH14 := hH13.newblk w13.heap.size 3 ([1, 5].map (Value.int .i64)).toArray rfl
  have hB14 := below_new hB13 hH13 (.cells ([1, 5].map (Value.int .i64)).toArray 3)
  have CS := hid (keeps (SameInts_calls ao (some ⟨w13.heap.size, 0, none⟩) cp 2 [1, 5] [1, 5] _ (srci_row [_] _ hH14 rfl) (src_blk (L1 := []) hH14 (by decide) (by decide)).srcI) hH14)
  clear h hH hB hH13 hB13 hH12 hB12
  go_wp2_with fail
  refine CS.out.mono ?_
  rintro e w15 ⟨rfl, hH, hB⟩
  have hB15 := hB14.trans hB
  have hH15 := hH.drop.drop
  clear CS hH hB hH14 hB14
  go_wp2_with (refine wpList_load_blk [_, _, _, _] _ hH15 24 (.tmp 1) rfl rfl rfl _ Try.underlying24 rfl conf_size ?_)
  refine (Foreign_calls (hcC s0) _ (src_blk (L1 := [_, _, _, _, _]) hH15 len51 wf51)).mono ?_
  intro e w16 h
  obtain ⟨v, rfl, hH, hB⟩ := h.at hH15
  rw [hfoC] at hH
  have hB16 := hB15.trans hB
  obtain ⟨ao, cp, rfl, _, _, _⟩ := hH.row_form [] _
  have hH16 : Has w16 B (row 3 1 (.slice ao 3 cp) 3 ([0, 6, 7].map (Value.int .i64)) :: _) := hH
  have hH17 := hH16.newblk w16.heap.size 3 ([0, 6, 7].map (Value.int .i64)).toArray rfl
  have hB17 := below_new hB16 hH16 (.cells ([0, 6, 7].map (Value.int .i64)).toArray 3)
  have CS := hid (keeps (SameInts_calls ao (some ⟨w16.heap.size, 0, none⟩) cp 3 [0, 6, 7] [0, 6, 7] _ (srci_row [_] _ hH17 rfl) (src_blk (L1 := []) hH17 (by decide) (by decide)).srcI) hH17)
  clear h hH hB hH16 hB16 hH15 hB15
  go_wp2_with fail
  refine CS.out.mono ?_
  rintro e w18 ⟨rfl, hH, hB⟩
  have hB18 := hB17.trans hB
  have hH18 := hH.drop.drop
  clear CS hH hB hH17 hB17
  go_wp2_with fail
  refine (RightIs hcZ hokZ _ hH18 (src_nil _)).mono ?_
  rintro e w19 ⟨rfl, hH19, hB19⟩
  have hB19 := hB18.trans hB19
  clear hH18 hB18
  go_wp2_with fail
  go_ret
  exact ⟨(), rfl, hH19.drop.drop.drop.drop.drop.drop, hB19⟩

end Go.Proofs.Ytkgijfodjmkhgaa
