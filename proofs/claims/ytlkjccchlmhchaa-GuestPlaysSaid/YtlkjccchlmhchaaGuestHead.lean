/-
  The live question of layer 7.
-/
import Derived.Test.YtlkjccchlmhchaaGuestArgs
namespace Go.Proofs.Ytlkjccchlmhchaa
open Go.RowKit
set_option linter.unusedVariables false
set_option linter.unusedSimpArgs false

theorem hosts_of {l : List Int} {n : Nat} (h : gok l n) : hosts n l := h.2.2.2.2.1
theorem srcu_blk {w : World} {B b : Nat} {T : TypeId} {l : List Int} (L1 L2 : List Asr) (hH : Has w B (L1 ++ blk b T (u64s l).toArray :: L2)) (hl : l.length ≤ 1000) : SrcU w (some ⟨b, 0, none⟩) l := by
  refine ⟨by omega, fun _ => ⟨b, 0, rfl, (hH.blk_at L1 L2).2.2, fun j u hj => ?_⟩⟩
  rw [Nat.zero_add]
  exact hH.cell L1 L2 j (by simpa using hj)

set_option maxHeartbeats 4000000 in
set_option maxRecDepth 100000 in
theorem head_true : Does Try.prog 9 #[] [] (fun _ : Unit => .bool true) (fun _ => []) := by
  intro w B X hH
  have hH0 : Has w B X := hH
  clear hH
  have i0 : hosts 8 [5, 2] := hosts_of (l := [5, 2]) (n := 8) (by decide)
  obtain ⟨W0, hW0⟩ : ∃ W0, List.replicate (8 * 8) (0 : Int) = W0 := ⟨_, rfl⟩
  obtain ⟨W1, hW1⟩ : ∃ W1, gSet W0 8 [5, 2] 1 3 9 = W1 := ⟨_, rfl⟩
  have s2 : gSet W1 8 [5, 2] 2 3 9 = W1 := rfl
  have s3 : gSet W1 8 [5, 2] 0 8 9 = W1 := rfl
  have g1 : gGet W1 8 [5, 2] 1 3 = .tuple #[.int .u64 9, .bool true] := by rw [← hW1, ← hW0]; rfl
  have g2 : getR W1 8 2 3 = .tuple #[.int .u64 9, .bool true] := by rw [← hW1, ← hW0]; rfl
  have g3 : (gAll W1 8 [5, 2])[11]? = some 9 := by rw [← hW1, ← hW0]; rfl
  have S2 := hid s2
  have S3 := hid s3
  have G1 := hid g1
  have G2 := hid g2
  have G3 := hid g3
  have HW0 := hid hW0
  have HW1 := hid hW1
  have I0 := hid i0
  clear i0 s2 s3 g1 g2 g3 hW0 hW1
  obtain ⟨Z, hZ⟩ : ∃ Z, List.replicate 16 (0 : Int) = Z := ⟨_, rfl⟩
  have hZl : Z.length = 16 := by rw [← hZ]; rfl
  have hmk : ∀ W : World, (Instr.makeSlice 34 (.int .i64 16) (.int .i64 16)).run Try.prog W = .ok (.slice (some ⟨W.heap.size, 0, none⟩) 16 16) (W.alloc (.cells (u64s Z).toArray 33)) := fun _ => by rw [← hZ]; kernel_rfl
  have HZL := hid hZl
  clear hZ hZl
  go_enter Try.func9, Try.ntmps9
  go_wp2_with fail
  refine (MemNew_yes 8 (by decide) (by decide) w B X hH0).mono ?_
  rintro e w1 ⟨hb, rfl, hH1, hB1⟩
  rw [HW0.out] at hH1
  go_wp2_with fail
  have hN0 := hH1.newblk w1.heap.size 3 #[.int .i64 5, .int .i64 2] rfl
  have hB0 := hB1.trans (below_new (Below.refl B w1) hH1 (.cells #[.int .i64 5, .int .i64 2] 3))
  refine (New_yes (l := [5, 2]) (frames := 8) (by decide) (src_blk (L1 := []) hN0 (by decide) (by decide)) hN0.drop).mono ?_
  rintro e w2 ⟨mb, rfl, hH2, hB2⟩
  have hB2 := hB0.trans hB2
  clear hN0 hB0 hH1 hB1
  go_wp2_with fail
  refine (GuestNew_calls mb hb w2 B _ hH2).mono ?_
  rintro e w3 ⟨gb, rfl, hH3, hB3⟩
  have hB3 := hB2.trans hB3
  clear hH2 hB2
  have cs := GSet_calls gb mb hb 8 [5, 2] W0 1 3 9 w3 B _ hH3
  rw [HW1.out, show gCan 8 [5, 2] 1 3 = true from by decide] at cs
  have CS := hid cs
  clear cs
  go_wp2_with fail
  refine CS.out.mono ?_
  rintro e w4 ⟨rfl, hH4, hB4⟩
  have hB4 := hB3.trans hB4
  clear hH3 hB3 CS
  have cs := GSet_calls gb mb hb 8 [5, 2] W1 2 3 9 w4 B _ hH4
  rw [S2.out, show gCan 8 [5, 2] 2 3 = false from by decide] at cs
  have CS := hid cs
  clear cs
  go_wp2_with fail
  refine CS.out.mono ?_
  rintro e w5 ⟨rfl, hH5, hB5⟩
  have hB5 := hB4.trans hB5
  clear hH4 hB4 CS
  have cs := GSet_calls gb mb hb 8 [5, 2] W1 0 8 9 w5 B _ hH5
  rw [S3.out, show gCan 8 [5, 2] 0 8 = false from by decide] at cs
  have CS := hid cs
  clear cs
  go_wp2_with fail
  refine CS.out.mono ?_
  rintro e w6 ⟨rfl, hH6, hB6⟩
  have hB6 := hB5.trans hB6
  clear hH5 hB5 CS
  have cg := GGet_calls gb mb hb 8 [5, 2] W1 1 3 w6 B _ hH6
  rw [G1.out] at cg
  have CG := hid cg
  clear cg
  go_wp2_with fail
  refine CG.out.mono ?_
  rintro e w7 ⟨rfl, rfl⟩
  clear CG
  have cg := Get_calls hb 8 W1 2 3 w6 B _ (hH6.front [_, _] _)
  rw [G2.out] at cg
  have CG := hid cg
  clear cg
  go_wp2_with fail
  refine CG.out.mono ?_
  rintro e w7 ⟨rfl, rfl⟩
  clear CG
  go_wp2_with fail
  refine (GAll_calls gb mb hb 8 [5, 2] W1 I0.out w6 B _ hH6).mono ?_
  rintro e w8 ⟨v8, rfl, hH8, hB8⟩
  have hB8 := hB6.trans hB8
  clear hH6 hB6
  obtain ⟨ao, cp, rfl, hcp, _, hao⟩ := hH8.row_form [] _
  obtain ⟨g8, rfl⟩ := hao (by decide)
  simp only [List.length_cons, List.length_nil, Nat.zero_add, Nat.reduceAdd, Nat.reduceMul] at hH8 hcp ⊢
  have hl16 : (gAll W1 8 [5, 2]).length = 16 := by have := hH8.row_len [] _; rw [u64s_length] at this; omega
  have c11 := hH8.row_cell [] _ 11 (u64s_get G3.out)
  have hcz : (15 : Int) ≤ (cp : Int) := by omega
  have hsl : ∀ W, Sem.run Try.prog (Instr.slice 34 (.slice (some ⟨g8, 0, none⟩) 16 cp) none (some (.int .i64 15)) none) W = .ok (.slice (some ⟨g8, 0, none⟩) 15 cp) W := fun W => by
    rw [run_slice_h (P := Try.prog) W 34 _ 16 cp (by rw [el_u64]; exact Try.underlying34) .i64 15 (by omega) (by omega), el_u64, sz_u64]
    simp [Result.andThen, sliced, addr_addG]
  obtain ⟨ws, hws⟩ : ∃ ws, (gAll W1 8 [5, 2]).take 15 = ws := ⟨_, rfl⟩
  have hwl : ws.length = 15 := by rw [← hws]; simp; omega
  have cl := GLoad_calls gb mb hb 8 [5, 2] W1 ws (some ⟨g8, 0, none⟩) cp I0.out (by omega) w8 B (row 33 1 (.slice (some ⟨g8, 0, none⟩) 16 cp) 16 (u64s (gAll W1 8 [5, 2])) :: X) (fun w' W' hH' _ => by
    have h0 := srcu_row [_, _, _] _ hH' hl16.symm
    rw [← hws]
    refine ⟨by simp; omega, fun _ => ?_⟩
    obtain ⟨b', o', e, hlt, hc⟩ := h0.mem (by omega)
    refine ⟨b', o', e, hlt, fun j u hj => hc j u ?_⟩
    have hj15 : j < 15 := by have := (List.getElem?_eq_some_iff.1 hj).1; rw [u64s_length] at this; simp at this; omega
    simp only [u64s, List.getElem?_map, List.getElem?_take_of_lt hj15] at hj ⊢
    exact hj) (hH8.perm (List.Perm.trans (List.Perm.swap _ _ _) (List.Perm.cons _ (List.Perm.trans (List.Perm.swap _ _ _) (List.Perm.cons _ (List.Perm.swap _ _ _))))))
  rw [hwl, show decide (15 = [(5 : Int), 2].length * 8) = false from by decide, show gLoad W1 8 [5, 2] ws = W1 from by unfold gLoad; rw [if_neg (by rw [hwl]; decide)]] at cl
  have CL := hid cl
  clear cl hwl hws hl16
  go_wp2_with fail
  refine CL.out.mono ?_
  rintro e w9 ⟨rfl, hH9, hB9⟩
  have hB9 := hB8.trans hB9
  have c11 := hH9.row_cell [_, _, _] _ 11 (u64s_get G3.out)
  clear hH8 hB8 CL hsl
  go_wp2_with fail
  have hN := ((((hH9.newblk w9.heap.size 33 (u64s Z).toArray rfl).front [_, _, _] _).front [_, _, _] _).front [_, _, _] _)
  have hBN := hB9.trans (below_new (Below.refl _ _) hH9 (.cells (u64s Z).toArray 33))
  have cl := GLoad_calls gb mb hb 8 [5, 2] W1 Z (some ⟨w9.heap.size, 0, none⟩) 16 I0.out (by rw [HZL.out]; omega) _ B _ (fun w' W' hH' _ => srcu_blk [_, _, _] _ hH' (by rw [HZL.out]; omega)) hN
  rw [HZL.out, show decide (16 = [(5 : Int), 2].length * 8) = true from by decide] at cl
  have CL := hid cl
  clear cl
  refine CL.out.mono ?_
  rintro e w10 ⟨rfl, hH10, hB10⟩
  have hB10 := hBN.trans hB10
  go_wp2_with fail
  refine (GFrames_calls gb mb hb [5, 2] w10 B _ hH10).mono ?_
  rintro e w11 ⟨rfl, rfl⟩
  go_wp2_with fail
  go_ret
  exact ⟨(), rfl, hH10.drop.drop.drop.drop.drop, hB10⟩

end Go.Proofs.Ytlkjccchlmhchaa
