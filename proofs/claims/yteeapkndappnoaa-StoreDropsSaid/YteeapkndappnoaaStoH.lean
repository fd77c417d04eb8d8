/-
  Package store: a slot and its word are put.
-/
import Derived.Test.YteeapkndappnoaaStoG
import Derived.Test.YteeapkndappnoaaPteB
import Derived.StillTailTactics
namespace Go.Proofs.Yteeapkndappnoaa
open Go.RowKit Go.Shelf
set_option linter.unusedVariables false
set_option linter.unusedSimpArgs false

section
variable {P : Program} {w : World} {B b : Nat} {T : TypeId} {cs : Array Value} {ops : Array Oper} {o : Oper} {a : Act} {K : Act → World → Prop} {Q : Exit → Act → World → Prop} {E : Prop}
/-- A struct is stored into a block, as one step of a region that draws its order. -/
theorem step_store_at (L1 L2 : List Asr) (hH : Has w B (L1 ++ blk b T cs :: L2)) (hgd : o.guard = none) (ty : TypeId) (x v : Operand) (ho : o.op = .store ty x v) (k : Nat) (hx : a.eval x = .pointer (some ⟨b, k, none⟩)) (vs : Array Value) (hv : a.eval v = .agg vs)
    (hi : (P.info? ty).map (·.size) = some vs.size) (hk : k + vs.size ≤ cs.size) (h1 : ∀ u ∈ vs.toList, u.oneCell' = true)
    (hK : ∀ w', Has w' B (L1 ++ blk b T (cs.toList.take k ++ vs.toList ++ cs.toList.drop (k + vs.size)).toArray :: L2) → Below B w w' → w'.heap.size = w.heap.size → K (a.put o.dst undef) w') : if Region.wanted o (yielded ops a.tmps) = true then Oper.wp P o a w K Q else E := by
  have hw : Region.wanted o (yielded ops a.tmps) = true := by simp [Region.wanted, hgd]
  rw [if_pos hw]
  obtain ⟨hb, hB, hlt⟩ := hH.blk_at L1 L2
  have hst := run_storeCells_at (P := P) b k T vs.toList 0 cs w hb (by simpa using hk) h1
  have hsz : (sizeOf ty).run P w = .ok vs.size w := by
    cases hq : P.info? ty with
    | none => simp [hq] at hi
    | some i => simp [hq] at hi; simp [sizeOf, typeInfo, hq, hi]
  unfold Oper.wp execOp
  simp only [ho, hx, hv, Instr.storeAt, Instr.sureAddr, storeVar, Value.cells, Sem.run_bind, Sem.run_pure, Result.andThen_ok, hsz, ne_eq, not_true_eq_false, if_false, hst]
  refine hK _ ?_ ?_ (by simp)
  · have := hH.step (A' := blk b T (cs.toList.take k ++ vs.toList ++ cs.toList.drop (k + vs.size)).toArray) L1 L2 (w' := w.setRow b (cs.toList.take k ++ vs.toList ++ cs.toList.drop (k + vs.size)).toArray) (by simp)
      (fun S ⟨hS, _⟩ => ⟨[b], ⟨rfl, setRow_heap w b cs _ T (0, 0) hb⟩, fun z hz => .inl (by rw [hS]; exact hz), fun z _ hz => setRow_other w b z _ (fun e => hz (by rw [hS, e]; simp))⟩)
    simpa using this
  · refine ⟨rfl, rfl, rfl, by simp, fun z hz => ?_⟩
    rw [setRow_other _ _ _ _ (by omega)]
end

/-- A page's slot, stored: all pages behind it. -/
theorem stoX_put {sb hb fb : Nat} {v : Value} {first many : Int} {F : List Int} {q : List (Nat × PageS)} {X : List Asr} {j k : Nat} {x : Nat × PageS} (hx : q[j]? = some x) (y : SlotS) (hk : k < x.2.s.length) :
    ([blk sb 88 #[ptrV hb, ptrV fb, v], row 91 1 v q.length (ptrs q), FreeA fb first many F] ++ pgs (q.take j)) ++ blk x.1 95 ((pageC x.2).toList.take (4 + k * 5) ++ (slotL y).toArray.toList ++ (pageC x.2).toList.drop (4 + k * 5 + (slotL y).toArray.size)).toArray :: (pgs (q.drop (j + 1)) ++ X)
      = stoX sb hb fb v first many F (q.set j (x.1, { x.2 with s := x.2.s.set k y })) X := by
  have e : ((pageC x.2).toList.take (4 + k * 5) ++ (slotL y).toArray.toList ++ (pageC x.2).toList.drop (4 + k * 5 + (slotL y).toArray.size)).toArray = pageC { x.2 with s := x.2.s.set k y } := pageC_set x.2 k y hk
  rw [e]
  have h := pgs_set (List.getElem?_eq_some_iff.1 hx).1 (x.1, { x.2 with s := x.2.s.set k y }) [blk sb 88 #[ptrV hb, ptrV fb, v], row 91 1 v q.length (ptrs q), FreeA fb first many F] X
  refine h.trans ?_
  unfold stoX
  rw [ptrs_set (b := x.1) (p := x.2) hx, List.length_set]
  rfl
theorem stoX_at {sb hb fb : Nat} {v : Value} {first many : Int} {F : List Int} {q : List (Nat × PageS)} {X : List Asr} {j : Nat} {x : Nat × PageS} (hx : q[j]? = some x) :
    stoX sb hb fb v first many F q X = ([blk sb 88 #[ptrV hb, ptrV fb, v], row 91 1 v q.length (ptrs q), FreeA fb first many F] ++ pgs (q.take j)) ++ blk x.1 95 (pageC x.2) :: (pgs (q.drop (j + 1)) ++ X) := pgs_split hx [_, _, _] X

theorem set_slots {q : List (Nat × PageS)} {j : Nat} {x : Nat × PageS} (hx : q[j]? = some x) (hnd : ((q.map Prod.snd).map (·.f)).Nodup) (k : Nat) (y : SlotS) : (q.set j (x.1, { x.2 with s := x.2.s.set k y })).map Prod.snd = setSlot (q.map Prod.snd) x.2.f k y := by
  unfold setSlot
  refine List.ext_getElem? fun i => ?_
  simp only [List.getElem?_map, List.getElem?_set]
  obtain ⟨h1, h2⟩ := List.getElem?_eq_some_iff.1 hx
  by_cases e : j = i
  · subst e
    simp [h1, h2]
  · rw [if_neg e]
    cases hi : q[i]? with
    | none => rfl
    | some z =>
      have hne : z.2.f ≠ x.2.f := by
        intro he
        obtain ⟨h3, h4⟩ := List.getElem?_eq_some_iff.1 hi
        have := (List.getElem_inj (i := j) (j := i) (h₀ := by simpa using h1) (h₁ := by simpa using h3) hnd).1 (by simp [h2, h4, he])
        exact e this
      simp [hne]
theorem setSlot_f (ps : List PageS) (f : Int) (k : Nat) (y : SlotS) : (setSlot ps f k y).map (·.f) = ps.map (·.f) := by
  unfold setSlot
  rw [List.map_map]
  refine List.map_congr_left fun p _ => ?_
  simp only [Function.comp]
  split <;> rfl
theorem setSlot_k (ps : List PageS) (f : Int) (k : Nat) (y : SlotS) : (setSlot ps f k y).map (·.k) = ps.map (·.k) := by
  unfold setSlot
  rw [List.map_map]
  refine List.map_congr_left fun p _ => ?_
  simp only [Function.comp]
  split <;> rfl
theorem setSlot_mem {ps : List PageS} {f : Int} {k : Nat} {y : SlotS} {p : PageS} (h : p ∈ setSlot ps f k y) : ∃ p0 ∈ ps, p.f = p0.f ∧ p.k = p0.k ∧ p.s.length = p0.s.length := by
  unfold setSlot at h
  obtain ⟨p0, h0, rfl⟩ := List.mem_map.1 h
  refine ⟨p0, h0, ?_⟩
  split <;> simp
theorem StoP.put {n : Nat} {first many : Int} {F : List Int} {ps : List PageS} (h : StoP n first many F ps) (f : Int) (k : Nat) (y : SlotS) : StoP n first many F (setSlot ps f k y) := by
  refine ⟨?_, ?_, by rw [setSlot_f]; exact h.nd, by rw [setSlot_k]; exact h.kd, ?_, ?_, h.hn, by have := h.ln; simpa [setSlot] using this, h.ff⟩
  · intro p hp
    obtain ⟨p0, h0, _, _, e⟩ := setSlot_mem hp
    rw [e]; exact h.s8 p0 h0
  · intro p hp
    obtain ⟨p0, h0, _, e, _⟩ := setSlot_mem hp
    rw [e]; exact h.ok p0 h0
  · intro p hp
    obtain ⟨p0, h0, e, _, _⟩ := setSlot_mem hp
    rw [e]; exact h.rg p0 h0
  · intro p hp
    obtain ⟨p0, h0, e, _, _⟩ := setSlot_mem hp
    rw [e]; exact h.df p0 h0

theorem Put_lit (p : PteS) (vw : Int) (pb : Bool) (h1 : (if putOk p then (putN p : Int) else 0) = vw) (h2 : putOk p = pb) (w : World) : Calls Try.prog 78 #[.agg (pteC p)] w fun e w' => e = .returned (.tuple #[.int .u64 vw, .bool pb]) ∧ Below w.heap.size w w' := by
  subst h1 h2
  exact EPut_calls p w

/-- The host's memory, to the front of what lies behind a store, and back. -/
theorem memX_out {sb hb fb n : Nat} {v : Value} {first many : Int} {F W : List Int} {q : List (Nat × PageS)} {w : World} {B : Nat} {A : Asr} {X : List Asr} (h : Has w B (A :: stoX sb hb fb v first many F q (MemA hb n W :: X))) : Has w B (MemA hb n W :: A :: stoX sb hb fb v first many F q X) :=
  h.perm (List.perm_middle (l₁ := A :: blk sb 88 #[ptrV hb, ptrV fb, v] :: row 91 1 v q.length (ptrs q) :: FreeA fb first many F :: pgs q) (l₂ := X))
theorem memX_in {sb hb fb n : Nat} {v : Value} {first many : Int} {F W : List Int} {q : List (Nat × PageS)} {w : World} {B : Nat} {A : Asr} {X : List Asr} (h : Has w B (MemA hb n W :: A :: stoX sb hb fb v first many F q X)) : Has w B (stoX sb hb fb v first many F q (MemA hb n W :: X)) :=
  (h.perm (List.perm_middle (l₁ := A :: blk sb 88 #[ptrV hb, ptrV fb, v] :: row 91 1 v q.length (ptrs q) :: FreeA fb first many F :: pgs q) (l₂ := X)).symm).drop
theorem slot_cells {w : World} {B b : Nat} {y : SlotS} {X : List Asr} (hH : Has w B (blk b 42 (slotC y) :: X)) : w.cell? ⟨b, 0, none⟩ = some (.int .i64 y.kd) ∧ w.cell? ⟨b, 1, none⟩ = some (.int .i64 y.to) ∧ w.cell? ⟨b, 2, none⟩ = some (.bool y.w) ∧ w.cell? ⟨b, 3, none⟩ = some (.bool y.u) ∧ w.cell? ⟨b, 4, none⟩ = some (.bool y.x) :=
  ⟨hH.cell [] _ 0 rfl, hH.cell [] _ 1 rfl, hH.cell [] _ 2 rfl, hH.cell [] _ 3 rfl, hH.cell [] _ 4 rfl⟩
set_option maxHeartbeats 2000000 in
set_option maxRecDepth 100000 in
theorem put_calls (sb hb n : Nat) (first many : Int) (F : List Int) (ps : List PageS) (W : List Int) (f i h : Int) (y : SlotS) (hs : (slotAt ps f i).isSome = true) (w : World) (B : Nat) (X : List Asr) (hH : Has w B (StoA sb hb n first many F ps :: MemA hb n W :: X)) :
    Calls Try.prog 63 #[.pointer (some ⟨sb, 0, none⟩), .int .i64 f, .int .i64 i, .agg (slotC y), .int .i64 h] w fun e w' => e = .returned (.bool true) ∧ Has w' B (StoA sb hb n first many F (setSlot ps f i.toNat y) :: MemA hb n (setW W n f i (wordOf y h)) :: X) ∧ Below B w w' := by
  obtain ⟨hP, fb, v, q, rfl, hl, hO⟩ := StoA.openX hH
  have hN := stoX_in (hO.newblk w.heap.size 42 (slotC y) rfl)
  have bN := below_new (Below.refl B w) hO (.cells (slotC y) 42)
  obtain ⟨o, ho⟩ : ∃ o, q.find? (fun x => x.2.f == f) = o := ⟨_, rfl⟩
  rcases find_slot hP f i o ho with ⟨h1, h2⟩ | ⟨x, j, k, y0, rfl, hj, hf, rfl, hk8, hy, h8, h1, h2⟩
  · rw [h2] at hs
    cases hs
  have cp := slot_calls sb hb fb v first many F q f k (some x) ho hl _ B _ hN.drew
  rw [h1] at cp
  have CP := hid cp
  have HJ := hid hj
  have H8 := hid (And.intro h8 hk8)
  have HF := hid hf
  have HP := hid hP
  have s1 := slot_cells (stoX_out hN).drew
  have bD := bN.drew
  obtain ⟨vw, hvw⟩ : ∃ vw, (if putOk (pteOf y h) then (putN (pteOf y h) : Int) else 0) = vw := ⟨_, rfl⟩
  obtain ⟨pb, hpb⟩ : ∃ pb, putOk (pteOf y h) = pb := ⟨_, rfl⟩
  have hx := hP.rg x.2 (List.mem_map_of_mem (List.mem_of_getElem? hj))
  have hwk : wok n f k := by have := hP.ff.a1; have := hP.hn; refine ⟨?_, ?_, ?_, ?_⟩ <;> omega
  have HWK := hid hwk
  have HVW := hid hvw
  have CPT := hid (fun W => Put_lit (pteOf y h) vw pb hvw hpb W)
  clear cp hj h1 h2 h8 hf hy hO hH hP ho hN bN hvw hpb hwk hx hs
  go_enter Try.func63, Try.ntmps63
  go_wp2_with fail
  refine wp_region_held_drew (S := fun U => U.cell? ⟨w.heap.size, 0, none⟩ = some (.int .i64 y.kd) ∧ U.cell? ⟨w.heap.size, 1, none⟩ = some (.int .i64 y.to) ∧ U.cell? ⟨w.heap.size, 2, none⟩ = some (.bool y.w) ∧ U.cell? ⟨w.heap.size, 3, none⟩ = some (.bool y.u) ∧ U.cell? ⟨w.heap.size, 4, none⟩ = some (.bool y.x)) (by kernel_rfl) ?_ (fun hHeld => ?_)
  · exact s1
  refine wpAnyH_take (i := 0) (oi := ?oi0) (v := ?v0) ?hi0 (by kernel_rfl) (by kernel_rfl) (by kernel_rfl) ?hQ0 ?hy0 (by assumption) ?rest0
  case hi0 => simp only [List.getElem?_toArray, List.getElem?_cons_succ, List.getElem?_cons_zero]; rfl
  case hQ0 => exact fun _ _ _ h => h
  case hy0 => refine Or.inl ⟨by rfl, ?_⟩; intro w hSw; (try dsimp only at hSw); go_simp; try with_reducible rfl
  try simp only [Act.put, List.setIfInBounds_toArray, List.set_cons_zero, List.set_cons_succ]
  refine wpAnyH_take (i := 1) (oi := ?oi1) (v := ?v1) ?hi1 (by kernel_rfl) (by kernel_rfl) (by kernel_rfl) ?hQ1 ?hy1 (by assumption) ?rest1
  case hi1 => simp only [List.getElem?_toArray, List.getElem?_cons_succ, List.getElem?_cons_zero]; rfl
  case hQ1 => exact fun _ _ _ h => h
  case hy1 => refine Or.inl ⟨by rfl, ?_⟩; intro w hSw; (try dsimp only at hSw); go_simp; try with_reducible rfl
  try simp only [Act.put, List.setIfInBounds_toArray, List.set_cons_zero, List.set_cons_succ]
  refine wpAnyH_take (i := 2) (oi := ?oi2) (v := ?v2) ?hi2 (by kernel_rfl) (by kernel_rfl) (by kernel_rfl) ?hQ2 ?hy2 (by assumption) ?rest2
  case hi2 => simp only [List.getElem?_toArray, List.getElem?_cons_succ, List.getElem?_cons_zero]; rfl
  case hQ2 => exact fun _ _ _ h => h
  case hy2 => refine Or.inl ⟨by rfl, ?_⟩; intro w hSw; (try dsimp only at hSw); go_simp; try with_reducible rfl
  try simp only [Act.put, List.setIfInBounds_toArray, List.set_cons_zero, List.set_cons_succ]
  refine wpAnyH_take (i := 4) (oi := ?oi4) (v := ?v4) ?hi4 (by kernel_rfl) (by kernel_rfl) (by kernel_rfl) ?hQ4 ?hy4 (by assumption) ?rest4
  case hi4 => simp only [List.getElem?_toArray, List.getElem?_cons_succ, List.getElem?_cons_zero]; rfl
  case hQ4 => exact fun _ _ _ h => h
  case hy4 => refine Or.inl ⟨by rfl, ?_⟩; intro w hSw; (try dsimp only at hSw); go_simp; try with_reducible rfl
  try simp only [Act.put, List.setIfInBounds_toArray, List.set_cons_zero, List.set_cons_succ]
  refine wpAnyH_ready (rs := [3]) (by kernel_rfl) (by simp) ?_
  refine AllReadyH.cons rfl (fun K hK => ?_) AllReadyH.nil
  go_simp
  go_at_call 51
  refine CP.out.mono ?_
  rintro e w2 ⟨rfl, hH2, hB2⟩
  have hb2 := stoX_out hH2
  have s2 := slot_cells hb2
  dsimp only
  refine hK.out _ _ ?_ (fun hHeld => ?_)
  · exact s2
  clear hK K
  try simp only [Act.put, List.setIfInBounds_toArray, List.set_cons_zero, List.set_cons_succ]
  refine wpAnyH_take (i := 5) (oi := ?oi5) (v := ?v5) ?hi5 (by kernel_rfl) (by kernel_rfl) (by kernel_rfl) ?hQ5 ?hy5 (by assumption) ?rest5
  case hi5 => simp only [List.getElem?_toArray, List.getElem?_cons_succ, List.getElem?_cons_zero]; rfl
  case hQ5 => exact fun _ _ _ h => h
  case hy5 => refine Or.inl ⟨by rfl, ?_⟩; intro w hSw; (try dsimp only at hSw); go_simp; try with_reducible rfl
  try simp only [Act.put, List.setIfInBounds_toArray, List.set_cons_zero, List.set_cons_succ]
  refine wpAnyH_ready (rs := [6]) (by kernel_rfl) (by simp) ?_
  refine AllReadyH.cons rfl (fun K hK => ?_) AllReadyH.nil
  refine step_store_at _ _ (stoX_at HJ.out ▸ hH2) rfl 42 (.tmp 18) (.tmp 17) rfl (4 + k * 5) rfl (slotL y).toArray rfl slot_size (by have := H8.out; simp [pageC, pageL_length, slotL]; omega) (slot_one _) ?_
  intro w3 hH3 hB3 hz3
  rw [stoX_put HJ.out y (by have := H8.out; omega)] at hH3
  have hb3 := stoX_out hH3
  have s3 := slot_cells hb3
  try dsimp only
  refine hK.out _ _ ?_ (fun hHeld => ?_)
  · exact s3
  clear hK K
  try simp only [Act.put, List.setIfInBounds_toArray, List.set_cons_zero, List.set_cons_succ]
  refine wpAnyH_done (by kernel_rfl) ?_ _
  have bE := (bD.trans hB2).trans hB3
  obtain ⟨m0, m1, m2, m3, m4⟩ := s3
  clear hHeld s1 s2 hH2 hB2 hB3 hz3 hb2 bD CP
  go_wp2_with fail
  refine (keeps (CPT.out w3) hb3).mono ?_
  rintro e w4 ⟨rfl, hH4, hB4⟩
  have bF := bE.trans hB4
  have z0 := hH4.cell [] _ 0 (v := .int .i64 y.kd) rfl
  have hst := stoX_in hH4
  have c0 := hst.cell [] _ 0 (v := ptrV hb) rfl
  unfold ptrV at c0
  clear CPT hH3 hb3 m0 m1 m2 m3 m4 bE hB4
  by_cases hk : y.kd = 0
  · have e1 : (y.kd == 0) = true := by rw [beq_iff_eq]; exact hk
    have hwd : wordOf y h = 0 := by unfold wordOf; rw [if_pos hk]
    have HWD := hid hwd
    have CS := hid (Set_calls hb n W f k (0) w4 B _ (memX_out hH4))
    clear hwd hk
    go_wp2_with fail
    refine CS.out.mono ?_
    rintro e w5 ⟨rfl, hH5, hB5⟩
    clear CS
    go_wp2_with fail
    go_ret
    refine ⟨congrArg (fun b => Ending.returned (.bool b)) (decide_eq_true HWK.out), ?_, bF.trans hB5⟩
    rw [HWD.out, show ((k : Nat) : Int).toNat = k from rfl]
    have h6 := memX_in hH5
    have e := set_slots HJ.out HP.out.nd k y
    have hp := HP.out.put f k y
    rw [HF.out] at e
    rw [← e] at hp ⊢
    exact StoA.shut fb v _ hp h6
  · have e1 : (y.kd == 0) = false := by rw [beq_eq_false_iff_ne]; exact hk
    have hwd : wordOf y h = vw := by unfold wordOf; rw [if_neg hk]; exact HVW.out
    have HWD := hid hwd
    have CS := hid (Set_calls hb n W f k (vw) w4 B _ (memX_out hH4))
    clear hwd hk
    go_wp2_with fail
    refine CS.out.mono ?_
    rintro e w5 ⟨rfl, hH5, hB5⟩
    clear CS
    go_wp2_with fail
    go_ret
    refine ⟨congrArg (fun b => Ending.returned (.bool b)) (decide_eq_true HWK.out), ?_, bF.trans hB5⟩
    rw [HWD.out, show ((k : Nat) : Int).toNat = k from rfl]
    have h6 := memX_in hH5
    have e := set_slots HJ.out HP.out.nd k y
    have hp := HP.out.put f k y
    rw [HF.out] at e
    rw [← e] at hp ⊢
    exact StoA.shut fb v _ hp h6

end Go.Proofs.Yteeapkndappnoaa
