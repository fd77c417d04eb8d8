/-
  Package store: a page is made.
-/
import Derived.Test.YteeapkndappnoaaStoJ
import Derived.Test.YteeapkndappnoaaFreeRef
namespace Go.Proofs.Yteeapkndappnoaa
open Go.RowKit Go.Shelf
set_option linter.unusedVariables false
set_option linter.unusedSimpArgs false

def newPg (f : Int) (k : KeyS) : PageS := ⟨f, k, List.replicate 8 slotZ⟩
theorem takeV_mem {F : List Int} (h : takeB F = true) : takeV F ∈ F := by
  unfold takeB at h
  unfold takeV
  cases hl : F.getLast? with
  | none => simp at hl; subst hl; cases h
  | some x => exact List.mem_of_getLast? hl
theorem takeV_out {F : List Int} (h : takeB F = true) (hn : F.Nodup) : takeV F ∉ F.dropLast := by
  unfold takeB at h
  have hne : F ≠ [] := by intro e; subst e; cases h
  have e1 : takeV F = F.getLast hne := by unfold takeV; rw [List.getLast?_eq_some_getLast hne]; rfl
  have e2 := List.dropLast_concat_getLast hne
  rw [← e2] at hn
  intro hm
  rw [List.nodup_append] at hn
  exact hn.2.2 _ hm _ (by rw [e1]; simp) rfl
theorem StoP.make {n : Nat} {first many : Int} {F : List Int} {ps : List PageS} (h : StoP n first many F ps) {k : KeyS} (hk : findK ps k = none) (hr : rightK k) (ht : takeB F = true) : StoP n first many F.dropLast (ps ++ [newPg (takeV F) k]) := by
  have hm := takeV_mem ht
  have ho := takeV_out ht h.ff.nd
  refine ⟨?_, ?_, ?_, ?_, ?_, ?_, h.hn, ?_, h.ff.take⟩
  · intro p hp
    rcases List.mem_append.1 hp with hp | hp
    · exact h.s8 p hp
    · simp at hp; subst hp; rfl
  · intro p hp
    rcases List.mem_append.1 hp with hp | hp
    · exact h.ok p hp
    · simp at hp; subst hp; exact hr
  · rw [List.map_append, List.nodup_append]
    refine ⟨h.nd, by simp, ?_⟩
    rintro a ha b hb rfl
    simp [newPg] at hb
    obtain ⟨p, hp, e⟩ := List.mem_map.1 ha
    exact h.df p hp (by rw [e, hb]; exact hm)
  · rw [List.map_append, List.nodup_append]
    refine ⟨h.kd, by simp, ?_⟩
    rintro a ha b hb rfl
    simp [newPg] at hb
    obtain ⟨p, hp, e⟩ := List.mem_map.1 ha
    unfold findK at hk
    rw [List.find?_eq_none] at hk
    exact hk p hp (by simp [e, hb])
  · intro p hp
    rcases List.mem_append.1 hp with hp | hp
    · exact h.rg p hp
    · simp at hp; subst hp; exact h.ff.rg _ hm
  · intro p hp
    rcases List.mem_append.1 hp with hp | hp
    · exact fun hd => h.df p hp (List.dropLast_subset _ hd)
    · simp at hp; subst hp; exact ho
  · have := h.ln
    have h0 : 0 < F.length := List.length_pos_of_mem hm
    simp
    omega
theorem zeroPage (w : World) : (zeroValue 95).run Try.prog w = .ok (.agg #[.int .i64 0, .int .i64 0, .int .i64 0, .int .i64 0, .int .i64 0, .int .i64 0, .bool false, .bool false, .bool false, .int .i64 0, .int .i64 0, .bool false, .bool false, .bool false, .int .i64 0, .int .i64 0, .bool false, .bool false, .bool false, .int .i64 0, .int .i64 0, .bool false, .bool false, .bool false, .int .i64 0, .int .i64 0, .bool false, .bool false, .bool false, .int .i64 0, .int .i64 0, .bool false, .bool false, .bool false, .int .i64 0, .int .i64 0, .bool false, .bool false, .bool false, .int .i64 0, .int .i64 0, .bool false, .bool false, .bool false]) w := by kernel_rfl
theorem findV_lit (o : Option PageS) (v : Int) (b : Bool) (h1 : (match o with | some p => p.f | none => 0) = v) (h2 : o.isSome = b) : findV o = .tuple #[.int .i64 v, .bool b] := by subst h1 h2; rfl
theorem FindIs (sb hb n : Nat) (first many : Int) (S : StS) (k : KeyS) (v : Int) (b : Bool) (h1 : (match findK S.ps k with | some p => p.f | none => 0) = v) (h2 : (findK S.ps k).isSome = b) (w : World) (B : Nat) (X : List Asr) (hH : Has w B (staL sb hb n first many S X)) :
    Calls Try.prog 22 #[.pointer (some ⟨sb, 0, none⟩), .agg (keyC k)] w fun e w' => e = .returned (.tuple #[.int .i64 v, .bool b]) ∧ Has w' B (staL sb hb n first many S X) ∧ Below B w w' := by
  rw [← findV_lit _ v b h1 h2]
  exact Find_calls sb hb n first many S.F S.ps k w B _ hH
theorem rightIs (k : KeyS) (b : Bool) (h : decide (rightK k) = b) (w : World) (B : Nat) (X : List Asr) (hH : Has w B X) :
    Calls Try.prog 56 #[.agg (keyC k)] w fun e w' => e = .returned (.bool b) ∧ Has w' B X ∧ Below B w w' := by
  subst h
  exact right_calls k w B X hH
theorem infoPtr : (Try.prog.info? 91).map (fun i => (i.zero, i.size, i.bytes)) = some (some (.pointer none), 1, 8) := by kernel_rfl
theorem key_cells {w : World} {B b : Nat} {k : KeyS} (L1 : List Asr) {X : List Asr} (hH : Has w B (L1 ++ blk b 31 (keyC k) :: X)) : w.cell? ⟨b, 0, none⟩ = some (.int .i64 k.g) ∧ w.cell? ⟨b, 1, none⟩ = some (.int .i64 k.lv) ∧ w.cell? ⟨b, 2, none⟩ = some (.int .i64 k.ro) :=
  ⟨hH.cell L1 X 0 rfl, hH.cell L1 X 1 rfl, hH.cell L1 X 2 rfl⟩

theorem make8 (w : World) : Sem.run Try.prog (Instr.makeSlice 62 (.int .i64 8) (.int .i64 8)) w = .ok (.slice (some ⟨w.heap.size, 0, none⟩) 8 8) (w.alloc (.cells #[.int .u64 0, .int .u64 0, .int .u64 0, .int .u64 0, .int .u64 0, .int .u64 0, .int .u64 0, .int .u64 0] 55)) := by kernel_rfl
theorem src8 {w : World} {B b : Nat} {X : List Asr} (h : Has w B (blk b 55 #[.int .u64 0, .int .u64 0, .int .u64 0, .int .u64 0, .int .u64 0, .int .u64 0, .int .u64 0, .int .u64 0] :: X)) : SrcU w (some ⟨b, 0, none⟩) (List.replicate 8 0) :=
  ⟨by decide, fun _ => ⟨b, 0, rfl, (h.blk_at [] _).2.2, fun j u hj => by rw [Nat.zero_add]; exact h.cell [] _ j (by simpa [u64s] using hj)⟩⟩
theorem memK {sb hb fb n : Nat} {v : Value} {first many : Int} {F W : List Int} {q : List (Nat × PageS)} {w : World} {B : Nat} {A : Asr} {X : List Asr} (h : Has w B (A :: stoX sb hb fb v first many F q (MemA hb n W :: X))) : Has w B (MemA hb n W :: A :: stoX sb hb fb v first many F q X) := memX_out h
theorem stoFin {sb hb fb n : Nat} {v : Value} {first many : Int} {F W : List Int} {q : List (Nat × PageS)} {w : World} {B : Nat} {A : Asr} {X : List Asr} (h : Has w B (MemA hb n W :: A :: stoX sb hb fb v first many F q X)) : Has w B (stoX sb hb fb v first many F q (MemA hb n W :: X)) := memX_in h
/-- One page more, behind all others. -/
theorem stoX_more {sb hb fb z : Nat} {v : Value} {first many : Int} {F : List Int} {q : List (Nat × PageS)} {p : PageS} {w : World} {B : Nat} {X : List Asr} (h : Has w B (blk z 95 (pageC p) :: blk sb 88 #[ptrV hb, ptrV fb, v] :: row 91 1 v (q.length + 1) (ptrs q ++ [.pointer (some ⟨z, 0, none⟩)]) :: FreeA fb first many F :: (pgs q ++ X))) : Has w B (stoX sb hb fb v first many F (q ++ [(z, p)]) X) := by
  have e := List.perm_middle (a := blk z 95 (pageC p)) (l₁ := blk sb 88 #[ptrV hb, ptrV fb, v] :: row 91 1 v (q.length + 1) (ptrs q ++ [.pointer (some ⟨z, 0, none⟩)]) :: FreeA fb first many F :: pgs q) (l₂ := X)
  have h2 := h.perm e.symm
  unfold stoX
  simpa [pgs, ptrs, ptrV] using h2
/-- The box behind a store and its host's memory. -/
theorem fromK {sb hb fb n : Nat} {v : Value} {first many : Int} {F W : List Int} {q : List (Nat × PageS)} {w : World} {B : Nat} {A : Asr} {X : List Asr} (h : Has w B (stoX sb hb fb v first many F q (MemA hb n W :: A :: X))) : Has w B (A :: stoX sb hb fb v first many F q (MemA hb n W :: X)) := by
  refine h.perm ?_
  have e := List.perm_middle (a := A) (l₁ := (blk sb 88 #[ptrV hb, ptrV fb, v] :: row 91 1 v q.length (ptrs q) :: FreeA fb first many F :: pgs q) ++ [MemA hb n W]) (l₂ := X)
  simpa [stoX] using e
theorem toK {sb hb fb n : Nat} {v : Value} {first many : Int} {F W : List Int} {q : List (Nat × PageS)} {w : World} {B : Nat} {A : Asr} {X : List Asr} (h : Has w B (A :: stoX sb hb fb v first many F q (MemA hb n W :: X))) : Has w B (stoX sb hb fb v first many F q (MemA hb n W :: A :: X)) := by
  refine h.perm ?_
  have e := List.perm_middle (a := A) (l₁ := (blk sb 88 #[ptrV hb, ptrV fb, v] :: row 91 1 v q.length (ptrs q) :: FreeA fb first many F :: pgs q) ++ [MemA hb n W]) (l₂ := X)
  refine List.Perm.symm ?_
  simpa [stoX] using e
set_option maxHeartbeats 4000000 in
set_option maxRecDepth 100000 in
theorem Make_calls (sb hb n : Nat) (first many : Int) (S : StS) (k : KeyS) (w : World) (B : Nat) (X : List Asr) (hH : Has w B (staL sb hb n first many S X)) :
    Calls Try.prog 21 #[.pointer (some ⟨sb, 0, none⟩), .agg (keyC k)] w fun e w' => e = .returned (.tuple #[.int .i64 (makeV S k), .bool (makeB S k)]) ∧ Has w' B (staL sb hb n first many (makeS n S k) X) ∧ Below B w w' := by
  have hP := StoA.fits hH
  obtain ⟨j0, hj0, jz0, jz1, jz2⟩ := info_parts infoPtr
  obtain ⟨fv, hfv⟩ : ∃ v, (match findK S.ps k with | some p => p.f | none => 0) = v := ⟨_, rfl⟩
  obtain ⟨fb', hfb⟩ : ∃ b, (findK S.ps k).isSome = b := ⟨_, rfl⟩
  obtain ⟨rb, hrb⟩ : ∃ b, decide (rightK k) = b := ⟨_, rfl⟩
  obtain ⟨mv, hmv⟩ : ∃ v, makeV S k = v := ⟨_, rfl⟩
  obtain ⟨mb, hmb⟩ : ∃ b, makeB S k = b := ⟨_, rfl⟩
  obtain ⟨kb, hkb⟩ : ∃ b, w.heap.size = b := ⟨_, rfl⟩
  have hN : Has (w.alloc (.cells (keyC k) 31)) B (staL sb hb n first many S (blk kb 31 (keyC k) :: X)) := toX (hH.newblk kb 31 (keyC k) hkb)
  have bN := below_new (Below.refl B w) hH (.cells (keyC k) 31)
  obtain ⟨a0, a1, a2⟩ := key_cells [_, _] hN
  have CF := hid (FindIs sb hb n first many S k fv fb' hfv hfb _ B _ hN)
  have hmbe : makeB S k = (!fb' && rb && takeB S.F) := by unfold makeB; rw [hrb, ← hfb, Option.not_isSome]
  have hmve : makeV S k = if makeB S k then takeV S.F else 0 := rfl
  rw [hmb] at hmbe hmve
  rw [hmv] at hmve
  have HMB := hid hmb
  have HP := hid hP
  have HFB := hid hfb
  have HRB := hid hrb
  rw [hmv, hmb]
  clear hmv hmb hfv hfb hH hP hN
  go_enter Try.func21, Try.ntmps21
  go_wp2_with fail
  refine CF.out.mono ?_
  rintro e w2 ⟨rfl, hH2, hB2⟩
  have bN := bN.trans hB2
  have hH2 : Has w2 B (staL sb hb n first many S (blk kb 31 (keyC k) :: X)) := hH2
  obtain ⟨c0, c1, c2⟩ := key_cells [_, _] hH2
  have HB := hid hkb
  clear CF hB2 a0 a1 a2 hkb
  cases fb' with
  | true =>
    have hm : mb = false := by rw [hmbe]; rfl
    subst hm
    have hv : mv = 0 := by rw [hmve]; rfl
    subst hv
    have hs : makeS n S k = S := by unfold makeS; rw [HMB.out]; rfl
    have HS := hid hs
    clear hmbe hmve hs hrb
    go_wp2_with fail
    go_ret2
    exact ⟨rfl, by rw [HS.out]; exact Has.drop (fromX hH2), bN⟩
  | false =>
    have CR := hid (rightIs k rb hrb w2 B _ hH2)
    clear hrb
    go_wp2_with fail
    refine CR.out.mono ?_
    rintro e w3 ⟨rfl, hH3, hB3⟩
    have bN := bN.trans hB3
    have hH3 : Has w3 B (staL sb hb n first many S (blk kb 31 (keyC k) :: X)) := hH3
    clear CR hH2 hB3 c0 c1 c2
    cases rb with
    | false =>
      have hm : mb = false := by rw [hmbe]; rfl
      subst hm
      have hv : mv = 0 := by rw [hmve]; rfl
      subst hv
      have hs : makeS n S k = S := by unfold makeS; rw [HMB.out]; rfl
      have HS := hid hs
      clear hmbe hmve hs
      go_wp2_with fail
      go_ret2
      exact ⟨rfl, by rw [HS.out]; exact Has.drop (fromX hH3), bN⟩
    | true =>
      obtain ⟨_, fb, v, q, hq, hl, hO⟩ := StoA.openX hH3
      have c1 := hO.cell [] _ 1 (v := ptrV fb) rfl
      unfold ptrV at c1
      have CT := hid ((FreeTake fb first many S.F).at [_, _] _ hO)
      have HQ := hid hq
      clear hH3 hq
      go_wp2_with fail
      refine CT.out.mono ?_
      rintro e w4 ⟨_, rfl, hH4, hB4⟩
      have bN := bN.trans hB4
      have hH4 : Has w4 B (stoX sb hb fb v first many S.F.dropLast q (MemA hb n S.W :: blk kb 31 (keyC k) :: X)) := hH4
      obtain ⟨tb, htb⟩ : ∃ b, takeB S.F = b := ⟨_, rfl⟩
      rw [htb] at hmbe ⊢
      clear CT hO c1 hB4
      cases tb with
      | false =>
        have hm : mb = false := by rw [hmbe]; rfl
        subst hm
        have hv : mv = 0 := by rw [hmve]; rfl
        subst hv
        have hs : makeS n S k = S := by unfold makeS; rw [HMB.out]; rfl
        have hF : S.F.dropLast = S.F := by
          have : S.F = [] := by unfold takeB at htb; simpa using htb
          rw [this]; rfl
        rw [hF] at hH4
        have HS := hid hs
        clear hmbe hmve hs hF htb
        go_wp2_with fail
        go_ret2
        refine ⟨rfl, ?_, bN⟩
        have h5 : Has w4 B (StoA sb hb n first many S.F (q.map Prod.snd) :: MemA hb n S.W :: blk kb 31 (keyC k) :: X) := StoA.shut fb v q (by rw [HQ.out]; exact HP.out) hH4
        rw [HQ.out] at h5
        rw [HS.out]
        exact Has.drop (fromX h5)
      | true =>
        have hm : mb = true := by rw [hmbe]; rfl
        subst hm
        have hv : mv = takeV S.F := by rw [hmve]; rfl
        obtain ⟨tv, htv⟩ : ∃ v, takeV S.F = v := ⟨_, rfl⟩
        have hvt : tv = mv := by rw [hv]; exact htv.symm
        rw [htv, hvt]
        rw [hvt] at htv
        clear hvt hv
        have HTV := hid htv
        have HTB := hid htb
        clear hmbe hmve htv htb
        obtain ⟨sz, hsz⟩ : ∃ z, w4.heap.size = z := ⟨_, rfl⟩
        have hD := hH4.drew
        have c2 := hD.cell [] _ 2 (v := v) rfl
        have s0 := key_cells [] (fromK hD)
        have zp := zeroPage
        go_wp2_with fail
        have hz1 : (w4.drew).heap.size = sz := hsz
        have hA1 : Has (w4.drew.alloc (.cells (pageC (newPg mv k)) 95)) B (blk sz 95 (pageC (newPg mv k)) :: stoX sb hb fb v first many S.F.dropLast q (MemA hb n S.W :: blk kb 31 (keyC k) :: X)) := hD.newblk sz 95 (pageC (newPg mv k)) hz1
        have bA1 := below_new bN.drew hD (.cells (pageC (newPg mv k)) 95)
        have hz2 : (w4.drew.alloc (.cells (pageC (newPg mv k)) 95)).heap.size = sz + 1 := by rw [World.size_alloc, hz1]
        have hA2 := hA1.alloc (.cells #[.pointer (some ⟨sz, 0, none⟩)] 91)
        have bA2 := below_new bA1 hA1 (.cells #[.pointer (some ⟨sz, 0, none⟩)] 91)
        have hN2 := cell_one_new (w4.drew.alloc (.cells (pageC (newPg mv k)) 95)) (.pointer (some ⟨sz, 0, none⟩)) 91
        rw [hz2] at hN2
        have s1 := key_cells [] (fromK hA1.drop)
        have s2 := key_cells [] (fromK hA2.drop)
        have c3 : (w4.alloc (.cells #[.int .i64 mv, .int .i64 k.g, .int .i64 k.lv, .int .i64 k.ro, .int .i64 0, .int .i64 0, .bool false, .bool false, .bool false, .int .i64 0, .int .i64 0, .bool false, .bool false, .bool false, .int .i64 0, .int .i64 0, .bool false, .bool false, .bool false, .int .i64 0, .int .i64 0, .bool false, .bool false, .bool false, .int .i64 0, .int .i64 0, .bool false, .bool false, .bool false, .int .i64 0, .int .i64 0, .bool false, .bool false, .bool false, .int .i64 0, .int .i64 0, .bool false, .bool false, .bool false, .int .i64 0, .int .i64 0, .bool false, .bool false, .bool false] 95)).cell? ⟨sb, 2, none⟩ = some v := hA1.cell [_] _ 2 (v := v) rfl
        have c4 : ((w4.alloc (.cells #[.int .i64 mv, .int .i64 k.g, .int .i64 k.lv, .int .i64 k.ro, .int .i64 0, .int .i64 0, .bool false, .bool false, .bool false, .int .i64 0, .int .i64 0, .bool false, .bool false, .bool false, .int .i64 0, .int .i64 0, .bool false, .bool false, .bool false, .int .i64 0, .int .i64 0, .bool false, .bool false, .bool false, .int .i64 0, .int .i64 0, .bool false, .bool false, .bool false, .int .i64 0, .int .i64 0, .bool false, .bool false, .bool false, .int .i64 0, .int .i64 0, .bool false, .bool false, .bool false, .int .i64 0, .int .i64 0, .bool false, .bool false, .bool false] 95)).alloc (.cells #[.pointer (some ⟨sz, 0, none⟩)] 91)).cell? ⟨sb, 2, none⟩ = some v := hA2.cell [_] _ 2 (v := v) rfl
        clear hz1 hz2
        refine wp_region_held_drew (S := fun U => U.cell? ⟨kb, 0, none⟩ = some (.int .i64 k.g) ∧ U.cell? ⟨kb, 1, none⟩ = some (.int .i64 k.lv) ∧ U.cell? ⟨kb, 2, none⟩ = some (.int .i64 k.ro)) (by kernel_rfl) ?_ (fun hHeld => ?_)
        · exact s0
        refine wpAnyH_take (i := 0) (oi := ?oi0) (v := ?v0) ?hi0 (by kernel_rfl) (by kernel_rfl) (by kernel_rfl) ?hQ0 ?hy0 (by assumption) ?rest0
        case hi0 => simp only [List.getElem?_toArray, List.getElem?_cons_succ, List.getElem?_cons_zero]; rfl
        case hQ0 => exact fun _ _ _ h => h
        case hy0 => refine Or.inl ⟨by rfl, ?_⟩; intro w hSw; (try dsimp only at hSw); go_simp; try with_reducible rfl
        try simp only [Act.put, List.setIfInBounds_toArray, List.set_cons_zero, List.set_cons_succ]
        refine wpAnyH_take (i := 1) (oi := ?oi1) (v := ?v1) ?hi1 (by kernel_rfl) (by kernel_rfl) (by kernel_rfl) ?hQ1 ?hy1 (by assumption) ?rest1
        case hi1 => simp only [List.getElem?_toArray, List.getElem?_cons_succ, List.getElem?_cons_zero]; rfl
        case hQ1 => exact fun _ _ _ h => h
        case hy1 => refine Or.inl ⟨by rfl, ?_⟩; intro w hSw; (try dsimp only at hSw); go_simp; try with_reducible rfl
        try simp only [Act.put, List.setIfInBounds_toArray, List.set_cons_zero, List.set_cons_succ]
        refine wpAnyH_take (i := 2) (oi := ?oi2) (v := ?v2) ?hi2 (by kernel_rfl) (by kernel_rfl) (by kernel_rfl) ?hQ2 ?hy2 (by assumption) ?rest2
        case hi2 => simp only [List.getElem?_toArray, List.getElem?_cons_succ, List.getElem?_cons_zero]; rfl
        case hQ2 => exact fun _ _ _ h => h
        case hy2 => refine Or.inl ⟨by rfl, ?_⟩; intro w hSw; (try dsimp only at hSw); go_simp; try with_reducible rfl
        try simp only [Act.put, List.setIfInBounds_toArray, List.set_cons_zero, List.set_cons_succ]
        refine wpAnyH_take (i := 3) (oi := ?oi3) (v := ?v3) ?hi3 (by kernel_rfl) (by kernel_rfl) (by kernel_rfl) ?hQ3 ?hy3 (by assumption) ?rest3
        case hi3 => simp only [List.getElem?_toArray, List.getElem?_cons_succ, List.getElem?_cons_zero]; rfl
        case hQ3 => exact fun _ _ _ h => h
        case hy3 => refine Or.inl ⟨by rfl, ?_⟩; intro w hSw; (try dsimp only at hSw); go_simp; try with_reducible rfl
        try simp only [Act.put, List.setIfInBounds_toArray, List.set_cons_zero, List.set_cons_succ]
        refine wpAnyH_take (i := 5) (oi := ?oi5) (v := ?v5) ?hi5 (by kernel_rfl) (by kernel_rfl) (by kernel_rfl) ?hQ5 ?hy5 (by assumption) ?rest5
        case hi5 => simp only [List.getElem?_toArray, List.getElem?_cons_succ, List.getElem?_cons_zero]; rfl
        case hQ5 => exact fun _ _ _ h => h
        case hy5 => refine Or.inl ⟨by rfl, ?_⟩; intro w hSw; (try dsimp only at hSw); go_simp; try with_reducible rfl
        try simp only [Act.put, List.setIfInBounds_toArray, List.set_cons_zero, List.set_cons_succ]
        refine wpAnyH_take (i := 6) (oi := ?oi6) (v := ?v6) ?hi6 (by kernel_rfl) (by kernel_rfl) (by kernel_rfl) ?hQ6 ?hy6 (by assumption) ?rest6
        case hi6 => simp only [List.getElem?_toArray, List.getElem?_cons_succ, List.getElem?_cons_zero]; rfl
        case hQ6 => exact fun _ _ _ h => h
        case hy6 => refine Or.inl ⟨by rfl, ?_⟩; intro w hSw; (try dsimp only at hSw); go_simp; try with_reducible rfl
        try simp only [Act.put, List.setIfInBounds_toArray, List.set_cons_zero, List.set_cons_succ]
        refine wpAnyH_take (i := 7) (oi := ?oi7) (v := ?v7) ?hi7 (by kernel_rfl) (by kernel_rfl) (by kernel_rfl) ?hQ7 ?hy7 (by assumption) ?rest7
        case hi7 => simp only [List.getElem?_toArray, List.getElem?_cons_succ, List.getElem?_cons_zero]; rfl
        case hQ7 => exact fun _ _ _ h => h
        case hy7 => refine Or.inl ⟨by rfl, ?_⟩; intro w hSw; (try dsimp only at hSw); go_simp; try with_reducible rfl
        try simp only [Act.put, List.setIfInBounds_toArray, List.set_cons_zero, List.set_cons_succ]
        refine wpAnyH_ready (rs := [4, 8]) (by kernel_rfl) (by simp) ?_
        refine AllReadyH.cons rfl (fun K hK => ?_) (AllReadyH.cons rfl (fun K hK => ?_) AllReadyH.nil)
        · go_simp
          refine hK.out _ _ ?_ (fun hHeld => ?_)
          · exact s0
          clear hK K
          try simp only [Act.put, List.setIfInBounds_toArray, List.set_cons_zero, List.set_cons_succ]
          refine wpAnyH_ready (rs := [8]) (by kernel_rfl) (by simp) ?_
          refine AllReadyH.cons rfl (fun K hK => ?_) AllReadyH.nil
          go_simp
          refine hK.out _ _ ?_ (fun hHeld => ?_)
          · exact s1
          clear hK K
          try simp only [Act.put, List.setIfInBounds_toArray, List.set_cons_zero, List.set_cons_succ]
          refine wpAnyH_ready (rs := [9]) (by kernel_rfl) (by simp) ?_
          refine AllReadyH.cons rfl (fun K hK => ?_) AllReadyH.nil
          go_simp
          refine hK.out _ _ ?_ (fun hHeld => ?_)
          · exact s2
          clear hK K
          try simp only [Act.put, List.setIfInBounds_toArray, List.set_cons_zero, List.set_cons_succ]
          refine wpAnyH_ready (rs := [10]) (by kernel_rfl) (by simp) ?_
          refine AllReadyH.cons rfl (fun K hK => ?_) AllReadyH.nil
          refine step_append_any [_, _] _ hA2 rfl (.tmp 36) (.tmp 41) 86 rfl j0 (.pointer none) 8 Try.underlying86 hj0 jz0 jz1 jz2 rfl (by decide) rfl ⟨sz + 1, 0, none⟩ 1 1 [.pointer (some ⟨sz, 0, none⟩)] rfl rfl hN2 (by simp [Value.oneCell']) (by decide) (by unfold maxLen; omega) (by omega) ?_
          intro g3 cap3 w3' hH3 hB3
          have s3 := key_cells (blk sz 95 (pageC (newPg mv k)) :: blk sb 88 #[ptrV hb, ptrV fb, v] :: row 91 1 (.slice (some ⟨g3, 0, none⟩) (q.length + 1) cap3) (q.length + 1) (ptrs q ++ [.pointer (some ⟨sz, 0, none⟩)]) :: FreeA fb first many S.F.dropLast :: (pgs q ++ [MemA hb n S.W])) (by simpa using hH3)
          have k4 := Has.frozen [_] _ hH3 2
          have k5 := Has.cell [_] _ hH3 2 (v := v) rfl
          have hS := Has.set [_] _ hH3 2 (.slice (some ⟨g3, 0, none⟩) (q.length + 1) cap3)
          have bS := below_set (bA2.trans hB3) [_] _ hH3 2 (.slice (some ⟨g3, 0, none⟩) (q.length + 1) cap3)
          have s4 := key_cells (blk sz 95 (pageC (newPg mv k)) :: blk sb 88 #[ptrV hb, ptrV fb, .slice (some ⟨g3, 0, none⟩) (q.length + 1) cap3] :: row 91 1 (.slice (some ⟨g3, 0, none⟩) (q.length + 1) cap3) (q.length + 1) (ptrs q ++ [.pointer (some ⟨sz, 0, none⟩)]) :: FreeA fb first many S.F.dropLast :: (pgs q ++ [MemA hb n S.W])) (by simpa using hS)
          refine hK.out _ _ ?_ (fun hHeld => ?_)
          · exact s3
          clear hK K
          try simp only [Act.put, List.setIfInBounds_toArray, List.set_cons_zero, List.set_cons_succ]
          refine wpAnyH_take (i := 11) (oi := ?oi11a) (v := ?v11a) ?hi11a (by kernel_rfl) (by kernel_rfl) (by kernel_rfl) ?hQ11a ?hy11a (by assumption) ?rest11a
          case hi11a => simp only [List.getElem?_toArray, List.getElem?_cons_succ, List.getElem?_cons_zero]; rfl
          case hQ11a => exact fun _ _ _ h => h
          case hy11a => refine Or.inl ⟨by rfl, ?_⟩; intro w hSw; (try dsimp only at hSw); go_simp; try with_reducible rfl
          try simp only [Act.put, List.setIfInBounds_toArray, List.set_cons_zero, List.set_cons_succ]
          refine wpAnyH_take (i := 12) (oi := ?oi12a) (v := ?v12a) ?hi12a (by kernel_rfl) (by kernel_rfl) (by kernel_rfl) ?hQ12a ?hy12a (by assumption) ?rest12a
          case hi12a => simp only [List.getElem?_toArray, List.getElem?_cons_succ, List.getElem?_cons_zero]; rfl
          case hQ12a => exact fun _ _ _ h => h
          case hy12a => refine Or.inl ⟨by rfl, ?_⟩; intro w hSw; (try dsimp only at hSw); go_simp; try with_reducible rfl
          try simp only [Act.put, List.setIfInBounds_toArray, List.set_cons_zero, List.set_cons_succ]
          refine wpAnyH_ready (rs := [13]) (by kernel_rfl) (by simp) ?_
          refine AllReadyH.cons rfl (fun K hK => ?_) AllReadyH.nil
          go_simp
          refine hK.out _ _ ?_ (fun hHeld => ?_)
          · exact s4
          clear hK K
          try simp only [Act.put, List.setIfInBounds_toArray, List.set_cons_zero, List.set_cons_succ]
          refine wpAnyH_done (by kernel_rfl) ?_ _
          have hT9 : Has _ B (stoX sb hb fb (.slice (some ⟨g3, 0, none⟩) (q.length + 1) cap3) first many S.F.dropLast (q ++ [(sz, newPg mv k)]) (MemA hb n S.W :: blk kb 31 (keyC k) :: X)) := stoX_more hS
          clear hHeld s0 s1 s2 s3 s4 hN2 hA1 hA2 bA1 bA2 hH3 hB3 k4 k5 hS hD c2 c3 c4
          go_wp2_with fail
          generalize (w3'.setCell ⟨sb, 2, none⟩ (.slice (some ⟨g3, 0, none⟩) (q.length + 1) cap3)) = w9 at *
          have hD9 := hT9.drew
          have bD9 := bS.drew
          have t0 := hD9.cell [] _ 0 (v := ptrV hb) rfl
          unfold ptrV at t0
          have mk := make8
          have hz9 : (w9.drew).heap.size = w9.heap.size := rfl
          have hT10 := hD9.newblk w9.heap.size 55 #[.int .u64 0, .int .u64 0, .int .u64 0, .int .u64 0, .int .u64 0, .int .u64 0, .int .u64 0, .int .u64 0] hz9
          have bT10 := below_new bD9 hD9 (.cells #[.int .u64 0, .int .u64 0, .int .u64 0, .int .u64 0, .int .u64 0, .int .u64 0, .int .u64 0, .int .u64 0] 55)
          have t1 := hT10.cell [_] _ 0 (v := ptrV hb) rfl
          unfold ptrV at t1
          clear hz9
          refine wp_region_held_drew (S := fun U => U.cell? ⟨sb, 0, none⟩ = some (.pointer (some ⟨hb, 0, none⟩))) (by kernel_rfl) ?_ (fun hHeld => ?_)
          · exact t0
          refine wpAnyH_take (i := 0) (oi := ?oi0za) (v := ?v0za) ?hi0za (by kernel_rfl) (by kernel_rfl) (by kernel_rfl) ?hQ0za ?hy0za (by assumption) ?rest0za
          case hi0za => simp only [List.getElem?_toArray, List.getElem?_cons_succ, List.getElem?_cons_zero]; rfl
          case hQ0za => exact fun _ _ _ h => h
          case hy0za => refine Or.inl ⟨by rfl, ?_⟩; intro w hSw; (try dsimp only at hSw); go_simp; try with_reducible rfl
          try simp only [Act.put, List.setIfInBounds_toArray, List.set_cons_zero, List.set_cons_succ]
          refine wpAnyH_take (i := 1) (oi := ?oi1za) (v := ?v1za) ?hi1za (by kernel_rfl) (by kernel_rfl) (by kernel_rfl) ?hQ1za ?hy1za (by assumption) ?rest1za
          case hi1za => simp only [List.getElem?_toArray, List.getElem?_cons_succ, List.getElem?_cons_zero]; rfl
          case hQ1za => exact fun _ _ _ h => h
          case hy1za => refine Or.inl ⟨by rfl, ?_⟩; intro w hSw; (try dsimp only at hSw); go_simp; try with_reducible rfl
          try simp only [Act.put, List.setIfInBounds_toArray, List.set_cons_zero, List.set_cons_succ]
          refine wpAnyH_take (i := 2) (oi := ?oi2za) (v := ?v2za) ?hi2za (by kernel_rfl) (by kernel_rfl) (by kernel_rfl) ?hQ2za ?hy2za (by assumption) ?rest2za
          case hi2za => simp only [List.getElem?_toArray, List.getElem?_cons_succ, List.getElem?_cons_zero]; rfl
          case hQ2za => exact fun _ _ _ h => h
          case hy2za => refine Or.inl ⟨by rfl, ?_⟩; intro w hSw; (try dsimp only at hSw); go_simp; try with_reducible rfl
          try simp only [Act.put, List.setIfInBounds_toArray, List.set_cons_zero, List.set_cons_succ]
          refine wpAnyH_take (i := 3) (oi := ?oi3za) (v := ?v3za) ?hi3za (by kernel_rfl) (by kernel_rfl) (by kernel_rfl) ?hQ3za ?hy3za (by assumption) ?rest3za
          case hi3za => simp only [List.getElem?_toArray, List.getElem?_cons_succ, List.getElem?_cons_zero]; rfl
          case hQ3za => exact fun _ _ _ h => h
          case hy3za => refine Or.inl ⟨by rfl, ?_⟩; intro w hSw; (try dsimp only at hSw); go_simp; try with_reducible rfl
          try simp only [Act.put, List.setIfInBounds_toArray, List.set_cons_zero, List.set_cons_succ]
          refine wpAnyH_take (i := 4) (oi := ?oi4za) (v := ?v4za) ?hi4za (by kernel_rfl) (by kernel_rfl) (by kernel_rfl) ?hQ4za ?hy4za (by assumption) ?rest4za
          case hi4za => simp only [List.getElem?_toArray, List.getElem?_cons_succ, List.getElem?_cons_zero]; rfl
          case hQ4za => exact fun _ _ _ h => h
          case hy4za => refine Or.inl ⟨by rfl, ?_⟩; intro w hSw; (try dsimp only at hSw); go_simp; try with_reducible rfl
          try simp only [Act.put, List.setIfInBounds_toArray, List.set_cons_zero, List.set_cons_succ]
          refine wpAnyH_ready (rs := [5]) (by kernel_rfl) (by simp) ?_
          refine AllReadyH.cons rfl (fun K hK => ?_) AllReadyH.nil
          go_simp
          refine hK.out _ _ ?_ (fun hHeld => ?_)
          · exact t1
          clear hK K
          try simp only [Act.put, List.setIfInBounds_toArray, List.set_cons_zero, List.set_cons_succ]
          refine wpAnyH_ready (rs := [6]) (by kernel_rfl) (by simp) ?_
          refine AllReadyH.cons rfl (fun K hK => ?_) AllReadyH.nil
          go_simp
          go_at_call 58
          refine (Fill_calls hb n S.W mv (some ⟨w9.heap.size, 0, none⟩) 8 (List.replicate 8 0) _ (src8 hT10) B _ (memK hT10)).mono ?_
          rintro e w10 ⟨rfl, hH10, hB10⟩
          have t2 := hH10.cell [_, _] _ 0 (v := ptrV hb) rfl
          unfold ptrV at t2
          try dsimp only
          refine hK.out _ _ ?_ (fun hHeld => ?_)
          · exact t2
          clear hK K
          try simp only [Act.put, List.setIfInBounds_toArray, List.set_cons_zero, List.set_cons_succ]
          refine wpAnyH_done (by kernel_rfl) ?_ _
          have bU := bT10.trans hB10
          clear hHeld t0 t1 t2 hT9 hD9 bD9 bT10 bS mk
          go_wp2_with fail
          go_ret2
          refine ⟨rfl, ?_, bU⟩
          have hms : makeS n S k = ⟨fillW S.W n mv (List.replicate 8 0), S.F.dropLast, S.ps ++ [newPg mv k]⟩ := by unfold makeS; rw [if_pos HMB.out, HTV.out]; rfl
          rw [hms]
          have hfk : findK S.ps k = none := by simpa using HFB.out
          have hp := HP.out.make hfk (of_decide_eq_true HRB.out) HTB.out
          rw [HTV.out] at hp
          have e : (q ++ [(sz, newPg mv k)]).map Prod.snd = S.ps ++ [newPg mv k] := by rw [List.map_append, HQ.out]; rfl
          rw [← e] at hp
          have h11 := StoA.shut fb _ (q ++ [(sz, newPg mv k)]) hp (stoFin hH10)
          rw [e] at h11
          exact Has.drop (fromX h11)
        · go_simp
          refine hK.out _ _ ?_ (fun hHeld => ?_)
          · exact s1
          clear hK K
          try simp only [Act.put, List.setIfInBounds_toArray, List.set_cons_zero, List.set_cons_succ]
          refine wpAnyH_ready (rs := [4, 9]) (by kernel_rfl) (by simp) ?_
          refine AllReadyH.cons rfl (fun K hK => ?_) (AllReadyH.cons rfl (fun K hK => ?_) AllReadyH.nil)
          · go_simp
            refine hK.out _ _ ?_ (fun hHeld => ?_)
            · exact s1
            clear hK K
            try simp only [Act.put, List.setIfInBounds_toArray, List.set_cons_zero, List.set_cons_succ]
            refine wpAnyH_ready (rs := [9]) (by kernel_rfl) (by simp) ?_
            refine AllReadyH.cons rfl (fun K hK => ?_) AllReadyH.nil
            go_simp
            refine hK.out _ _ ?_ (fun hHeld => ?_)
            · exact s2
            clear hK K
            try simp only [Act.put, List.setIfInBounds_toArray, List.set_cons_zero, List.set_cons_succ]
            refine wpAnyH_ready (rs := [10]) (by kernel_rfl) (by simp) ?_
            refine AllReadyH.cons rfl (fun K hK => ?_) AllReadyH.nil
            refine step_append_any [_, _] _ hA2 rfl (.tmp 36) (.tmp 41) 86 rfl j0 (.pointer none) 8 Try.underlying86 hj0 jz0 jz1 jz2 rfl (by decide) rfl ⟨sz + 1, 0, none⟩ 1 1 [.pointer (some ⟨sz, 0, none⟩)] rfl rfl hN2 (by simp [Value.oneCell']) (by decide) (by unfold maxLen; omega) (by omega) ?_
            intro g3 cap3 w3' hH3 hB3
            have s3 := key_cells (blk sz 95 (pageC (newPg mv k)) :: blk sb 88 #[ptrV hb, ptrV fb, v] :: row 91 1 (.slice (some ⟨g3, 0, none⟩) (q.length + 1) cap3) (q.length + 1) (ptrs q ++ [.pointer (some ⟨sz, 0, none⟩)]) :: FreeA fb first many S.F.dropLast :: (pgs q ++ [MemA hb n S.W])) (by simpa using hH3)
            have k4 := Has.frozen [_] _ hH3 2
            have k5 := Has.cell [_] _ hH3 2 (v := v) rfl
            have hS := Has.set [_] _ hH3 2 (.slice (some ⟨g3, 0, none⟩) (q.length + 1) cap3)
            have bS := below_set (bA2.trans hB3) [_] _ hH3 2 (.slice (some ⟨g3, 0, none⟩) (q.length + 1) cap3)
            have s4 := key_cells (blk sz 95 (pageC (newPg mv k)) :: blk sb 88 #[ptrV hb, ptrV fb, .slice (some ⟨g3, 0, none⟩) (q.length + 1) cap3] :: row 91 1 (.slice (some ⟨g3, 0, none⟩) (q.length + 1) cap3) (q.length + 1) (ptrs q ++ [.pointer (some ⟨sz, 0, none⟩)]) :: FreeA fb first many S.F.dropLast :: (pgs q ++ [MemA hb n S.W])) (by simpa using hS)
            refine hK.out _ _ ?_ (fun hHeld => ?_)
            · exact s3
            clear hK K
            try simp only [Act.put, List.setIfInBounds_toArray, List.set_cons_zero, List.set_cons_succ]
            refine wpAnyH_take (i := 11) (oi := ?oi11b) (v := ?v11b) ?hi11b (by kernel_rfl) (by kernel_rfl) (by kernel_rfl) ?hQ11b ?hy11b (by assumption) ?rest11b
            case hi11b => simp only [List.getElem?_toArray, List.getElem?_cons_succ, List.getElem?_cons_zero]; rfl
            case hQ11b => exact fun _ _ _ h => h
            case hy11b => refine Or.inl ⟨by rfl, ?_⟩; intro w hSw; (try dsimp only at hSw); go_simp; try with_reducible rfl
            try simp only [Act.put, List.setIfInBounds_toArray, List.set_cons_zero, List.set_cons_succ]
            refine wpAnyH_take (i := 12) (oi := ?oi12b) (v := ?v12b) ?hi12b (by kernel_rfl) (by kernel_rfl) (by kernel_rfl) ?hQ12b ?hy12b (by assumption) ?rest12b
            case hi12b => simp only [List.getElem?_toArray, List.getElem?_cons_succ, List.getElem?_cons_zero]; rfl
            case hQ12b => exact fun _ _ _ h => h
            case hy12b => refine Or.inl ⟨by rfl, ?_⟩; intro w hSw; (try dsimp only at hSw); go_simp; try with_reducible rfl
            try simp only [Act.put, List.setIfInBounds_toArray, List.set_cons_zero, List.set_cons_succ]
            refine wpAnyH_ready (rs := [13]) (by kernel_rfl) (by simp) ?_
            refine AllReadyH.cons rfl (fun K hK => ?_) AllReadyH.nil
            go_simp
            refine hK.out _ _ ?_ (fun hHeld => ?_)
            · exact s4
            clear hK K
            try simp only [Act.put, List.setIfInBounds_toArray, List.set_cons_zero, List.set_cons_succ]
            refine wpAnyH_done (by kernel_rfl) ?_ _
            have hT9 : Has _ B (stoX sb hb fb (.slice (some ⟨g3, 0, none⟩) (q.length + 1) cap3) first many S.F.dropLast (q ++ [(sz, newPg mv k)]) (MemA hb n S.W :: blk kb 31 (keyC k) :: X)) := stoX_more hS
            clear hHeld s0 s1 s2 s3 s4 hN2 hA1 hA2 bA1 bA2 hH3 hB3 k4 k5 hS hD c2 c3 c4
            go_wp2_with fail
            generalize (w3'.setCell ⟨sb, 2, none⟩ (.slice (some ⟨g3, 0, none⟩) (q.length + 1) cap3)) = w9 at *
            have hD9 := hT9.drew
            have bD9 := bS.drew
            have t0 := hD9.cell [] _ 0 (v := ptrV hb) rfl
            unfold ptrV at t0
            have mk := make8
            have hz9 : (w9.drew).heap.size = w9.heap.size := rfl
            have hT10 := hD9.newblk w9.heap.size 55 #[.int .u64 0, .int .u64 0, .int .u64 0, .int .u64 0, .int .u64 0, .int .u64 0, .int .u64 0, .int .u64 0] hz9
            have bT10 := below_new bD9 hD9 (.cells #[.int .u64 0, .int .u64 0, .int .u64 0, .int .u64 0, .int .u64 0, .int .u64 0, .int .u64 0, .int .u64 0] 55)
            have t1 := hT10.cell [_] _ 0 (v := ptrV hb) rfl
            unfold ptrV at t1
            clear hz9
            refine wp_region_held_drew (S := fun U => U.cell? ⟨sb, 0, none⟩ = some (.pointer (some ⟨hb, 0, none⟩))) (by kernel_rfl) ?_ (fun hHeld => ?_)
            · exact t0
            refine wpAnyH_take (i := 0) (oi := ?oi0zb) (v := ?v0zb) ?hi0zb (by kernel_rfl) (by kernel_rfl) (by kernel_rfl) ?hQ0zb ?hy0zb (by assumption) ?rest0zb
            case hi0zb => simp only [List.getElem?_toArray, List.getElem?_cons_succ, List.getElem?_cons_zero]; rfl
            case hQ0zb => exact fun _ _ _ h => h
            case hy0zb => refine Or.inl ⟨by rfl, ?_⟩; intro w hSw; (try dsimp only at hSw); go_simp; try with_reducible rfl
            try simp only [Act.put, List.setIfInBounds_toArray, List.set_cons_zero, List.set_cons_succ]
            refine wpAnyH_take (i := 1) (oi := ?oi1zb) (v := ?v1zb) ?hi1zb (by kernel_rfl) (by kernel_rfl) (by kernel_rfl) ?hQ1zb ?hy1zb (by assumption) ?rest1zb
            case hi1zb => simp only [List.getElem?_toArray, List.getElem?_cons_succ, List.getElem?_cons_zero]; rfl
            case hQ1zb => exact fun _ _ _ h => h
            case hy1zb => refine Or.inl ⟨by rfl, ?_⟩; intro w hSw; (try dsimp only at hSw); go_simp; try with_reducible rfl
            try simp only [Act.put, List.setIfInBounds_toArray, List.set_cons_zero, List.set_cons_succ]
            refine wpAnyH_take (i := 2) (oi := ?oi2zb) (v := ?v2zb) ?hi2zb (by kernel_rfl) (by kernel_rfl) (by kernel_rfl) ?hQ2zb ?hy2zb (by assumption) ?rest2zb
            case hi2zb => simp only [List.getElem?_toArray, List.getElem?_cons_succ, List.getElem?_cons_zero]; rfl
            case hQ2zb => exact fun _ _ _ h => h
            case hy2zb => refine Or.inl ⟨by rfl, ?_⟩; intro w hSw; (try dsimp only at hSw); go_simp; try with_reducible rfl
            try simp only [Act.put, List.setIfInBounds_toArray, List.set_cons_zero, List.set_cons_succ]
            refine wpAnyH_take (i := 3) (oi := ?oi3zb) (v := ?v3zb) ?hi3zb (by kernel_rfl) (by kernel_rfl) (by kernel_rfl) ?hQ3zb ?hy3zb (by assumption) ?rest3zb
            case hi3zb => simp only [List.getElem?_toArray, List.getElem?_cons_succ, List.getElem?_cons_zero]; rfl
            case hQ3zb => exact fun _ _ _ h => h
            case hy3zb => refine Or.inl ⟨by rfl, ?_⟩; intro w hSw; (try dsimp only at hSw); go_simp; try with_reducible rfl
            try simp only [Act.put, List.setIfInBounds_toArray, List.set_cons_zero, List.set_cons_succ]
            refine wpAnyH_take (i := 4) (oi := ?oi4zb) (v := ?v4zb) ?hi4zb (by kernel_rfl) (by kernel_rfl) (by kernel_rfl) ?hQ4zb ?hy4zb (by assumption) ?rest4zb
            case hi4zb => simp only [List.getElem?_toArray, List.getElem?_cons_succ, List.getElem?_cons_zero]; rfl
            case hQ4zb => exact fun _ _ _ h => h
            case hy4zb => refine Or.inl ⟨by rfl, ?_⟩; intro w hSw; (try dsimp only at hSw); go_simp; try with_reducible rfl
            try simp only [Act.put, List.setIfInBounds_toArray, List.set_cons_zero, List.set_cons_succ]
            refine wpAnyH_ready (rs := [5]) (by kernel_rfl) (by simp) ?_
            refine AllReadyH.cons rfl (fun K hK => ?_) AllReadyH.nil
            go_simp
            refine hK.out _ _ ?_ (fun hHeld => ?_)
            · exact t1
            clear hK K
            try simp only [Act.put, List.setIfInBounds_toArray, List.set_cons_zero, List.set_cons_succ]
            refine wpAnyH_ready (rs := [6]) (by kernel_rfl) (by simp) ?_
            refine AllReadyH.cons rfl (fun K hK => ?_) AllReadyH.nil
            go_simp
            go_at_call 58
            refine (Fill_calls hb n S.W mv (some ⟨w9.heap.size, 0, none⟩) 8 (List.replicate 8 0) _ (src8 hT10) B _ (memK hT10)).mono ?_
            rintro e w10 ⟨rfl, hH10, hB10⟩
            have t2 := hH10.cell [_, _] _ 0 (v := ptrV hb) rfl
            unfold ptrV at t2
            try dsimp only
            refine hK.out _ _ ?_ (fun hHeld => ?_)
            · exact t2
            clear hK K
            try simp only [Act.put, List.setIfInBounds_toArray, List.set_cons_zero, List.set_cons_succ]
            refine wpAnyH_done (by kernel_rfl) ?_ _
            have bU := bT10.trans hB10
            clear hHeld t0 t1 t2 hT9 hD9 bD9 bT10 bS mk
            go_wp2_with fail
            go_ret2
            refine ⟨rfl, ?_, bU⟩
            have hms : makeS n S k = ⟨fillW S.W n mv (List.replicate 8 0), S.F.dropLast, S.ps ++ [newPg mv k]⟩ := by unfold makeS; rw [if_pos HMB.out, HTV.out]; rfl
            rw [hms]
            have hfk : findK S.ps k = none := by simpa using HFB.out
            have hp := HP.out.make hfk (of_decide_eq_true HRB.out) HTB.out
            rw [HTV.out] at hp
            have e : (q ++ [(sz, newPg mv k)]).map Prod.snd = S.ps ++ [newPg mv k] := by rw [List.map_append, HQ.out]; rfl
            rw [← e] at hp
            have h11 := StoA.shut fb _ (q ++ [(sz, newPg mv k)]) hp (stoFin hH10)
            rw [e] at h11
            exact Has.drop (fromX h11)
          · go_simp
            refine hK.out _ _ ?_ (fun hHeld => ?_)
            · exact s2
            clear hK K
            try simp only [Act.put, List.setIfInBounds_toArray, List.set_cons_zero, List.set_cons_succ]
            refine wpAnyH_ready (rs := [4]) (by kernel_rfl) (by simp) ?_
            refine AllReadyH.cons rfl (fun K hK => ?_) AllReadyH.nil
            go_simp
            refine hK.out _ _ ?_ (fun hHeld => ?_)
            · exact s2
            clear hK K
            try simp only [Act.put, List.setIfInBounds_toArray, List.set_cons_zero, List.set_cons_succ]
            refine wpAnyH_ready (rs := [10]) (by kernel_rfl) (by simp) ?_
            refine AllReadyH.cons rfl (fun K hK => ?_) AllReadyH.nil
            refine step_append_any [_, _] _ hA2 rfl (.tmp 36) (.tmp 41) 86 rfl j0 (.pointer none) 8 Try.underlying86 hj0 jz0 jz1 jz2 rfl (by decide) rfl ⟨sz + 1, 0, none⟩ 1 1 [.pointer (some ⟨sz, 0, none⟩)] rfl rfl hN2 (by simp [Value.oneCell']) (by decide) (by unfold maxLen; omega) (by omega) ?_
            intro g3 cap3 w3' hH3 hB3
            have s3 := key_cells (blk sz 95 (pageC (newPg mv k)) :: blk sb 88 #[ptrV hb, ptrV fb, v] :: row 91 1 (.slice (some ⟨g3, 0, none⟩) (q.length + 1) cap3) (q.length + 1) (ptrs q ++ [.pointer (some ⟨sz, 0, none⟩)]) :: FreeA fb first many S.F.dropLast :: (pgs q ++ [MemA hb n S.W])) (by simpa using hH3)
            have k4 := Has.frozen [_] _ hH3 2
            have k5 := Has.cell [_] _ hH3 2 (v := v) rfl
            have hS := Has.set [_] _ hH3 2 (.slice (some ⟨g3, 0, none⟩) (q.length + 1) cap3)
            have bS := below_set (bA2.trans hB3) [_] _ hH3 2 (.slice (some ⟨g3, 0, none⟩) (q.length + 1) cap3)
            have s4 := key_cells (blk sz 95 (pageC (newPg mv k)) :: blk sb 88 #[ptrV hb, ptrV fb, .slice (some ⟨g3, 0, none⟩) (q.length + 1) cap3] :: row 91 1 (.slice (some ⟨g3, 0, none⟩) (q.length + 1) cap3) (q.length + 1) (ptrs q ++ [.pointer (some ⟨sz, 0, none⟩)]) :: FreeA fb first many S.F.dropLast :: (pgs q ++ [MemA hb n S.W])) (by simpa using hS)
            refine hK.out _ _ ?_ (fun hHeld => ?_)
            · exact s3
            clear hK K
            try simp only [Act.put, List.setIfInBounds_toArray, List.set_cons_zero, List.set_cons_succ]
            refine wpAnyH_take (i := 11) (oi := ?oi11c) (v := ?v11c) ?hi11c (by kernel_rfl) (by kernel_rfl) (by kernel_rfl) ?hQ11c ?hy11c (by assumption) ?rest11c
            case hi11c => simp only [List.getElem?_toArray, List.getElem?_cons_succ, List.getElem?_cons_zero]; rfl
            case hQ11c => exact fun _ _ _ h => h
            case hy11c => refine Or.inl ⟨by rfl, ?_⟩; intro w hSw; (try dsimp only at hSw); go_simp; try with_reducible rfl
            try simp only [Act.put, List.setIfInBounds_toArray, List.set_cons_zero, List.set_cons_succ]
            refine wpAnyH_take (i := 12) (oi := ?oi12c) (v := ?v12c) ?hi12c (by kernel_rfl) (by kernel_rfl) (by kernel_rfl) ?hQ12c ?hy12c (by assumption) ?rest12c
            case hi12c => simp only [List.getElem?_toArray, List.getElem?_cons_succ, List.getElem?_cons_zero]; rfl
            case hQ12c => exact fun _ _ _ h => h
            case hy12c => refine Or.inl ⟨by rfl, ?_⟩; intro w hSw; (try dsimp only at hSw); go_simp; try with_reducible rfl
            try simp only [Act.put, List.setIfInBounds_toArray, List.set_cons_zero, List.set_cons_succ]
            refine wpAnyH_ready (rs := [13]) (by kernel_rfl) (by simp) ?_
            refine AllReadyH.cons rfl (fun K hK => ?_) AllReadyH.nil
            go_simp
            refine hK.out _ _ ?_ (fun hHeld => ?_)
            · exact s4
            clear hK K
            try simp only [Act.put, List.setIfInBounds_toArray, List.set_cons_zero, List.set_cons_succ]
            refine wpAnyH_done (by kernel_rfl) ?_ _
            have hT9 : Has _ B (stoX sb hb fb (.slice (some ⟨g3, 0, none⟩) (q.length + 1) cap3) first many S.F.dropLast (q ++ [(sz, newPg mv k)]) (MemA hb n S.W :: blk kb 31 (keyC k) :: X)) := stoX_more hS
            clear hHeld s0 s1 s2 s3 s4 hN2 hA1 hA2 bA1 bA2 hH3 hB3 k4 k5 hS hD c2 c3 c4
            go_wp2_with fail
            generalize (w3'.setCell ⟨sb, 2, none⟩ (.slice (some ⟨g3, 0, none⟩) (q.length + 1) cap3)) = w9 at *
            have hD9 := hT9.drew
            have bD9 := bS.drew
            have t0 := hD9.cell [] _ 0 (v := ptrV hb) rfl
            unfold ptrV at t0
            have mk := make8
            have hz9 : (w9.drew).heap.size = w9.heap.size := rfl
            have hT10 := hD9.newblk w9.heap.size 55 #[.int .u64 0, .int .u64 0, .int .u64 0, .int .u64 0, .int .u64 0, .int .u64 0, .int .u64 0, .int .u64 0] hz9
            have bT10 := below_new bD9 hD9 (.cells #[.int .u64 0, .int .u64 0, .int .u64 0, .int .u64 0, .int .u64 0, .int .u64 0, .int .u64 0, .int .u64 0] 55)
            have t1 := hT10.cell [_] _ 0 (v := ptrV hb) rfl
            unfold ptrV at t1
            clear hz9
            refine wp_region_held_drew (S := fun U => U.cell? ⟨sb, 0, none⟩ = some (.pointer (some ⟨hb, 0, none⟩))) (by kernel_rfl) ?_ (fun hHeld => ?_)
            · exact t0
            refine wpAnyH_take (i := 0) (oi := ?oi0zc) (v := ?v0zc) ?hi0zc (by kernel_rfl) (by kernel_rfl) (by kernel_rfl) ?hQ0zc ?hy0zc (by assumption) ?rest0zc
            case hi0zc => simp only [List.getElem?_toArray, List.getElem?_cons_succ, List.getElem?_cons_zero]; rfl
            case hQ0zc => exact fun _ _ _ h => h
            case hy0zc => refine Or.inl ⟨by rfl, ?_⟩; intro w hSw; (try dsimp only at hSw); go_simp; try with_reducible rfl
            try simp only [Act.put, List.setIfInBounds_toArray, List.set_cons_zero, List.set_cons_succ]
            refine wpAnyH_take (i := 1) (oi := ?oi1zc) (v := ?v1zc) ?hi1zc (by kernel_rfl) (by kernel_rfl) (by kernel_rfl) ?hQ1zc ?hy1zc (by assumption) ?rest1zc
            case hi1zc => simp only [List.getElem?_toArray, List.getElem?_cons_succ, List.getElem?_cons_zero]; rfl
            case hQ1zc => exact fun _ _ _ h => h
            case hy1zc => refine Or.inl ⟨by rfl, ?_⟩; intro w hSw; (try dsimp only at hSw); go_simp; try with_reducible rfl
            try simp only [Act.put, List.setIfInBounds_toArray, List.set_cons_zero, List.set_cons_succ]
            refine wpAnyH_take (i := 2) (oi := ?oi2zc) (v := ?v2zc) ?hi2zc (by kernel_rfl) (by kernel_rfl) (by kernel_rfl) ?hQ2zc ?hy2zc (by assumption) ?rest2zc
            case hi2zc => simp only [List.getElem?_toArray, List.getElem?_cons_succ, List.getElem?_cons_zero]; rfl
            case hQ2zc => exact fun _ _ _ h => h
            case hy2zc => refine Or.inl ⟨by rfl, ?_⟩; intro w hSw; (try dsimp only at hSw); go_simp; try with_reducible rfl
            try simp only [Act.put, List.setIfInBounds_toArray, List.set_cons_zero, List.set_cons_succ]
            refine wpAnyH_take (i := 3) (oi := ?oi3zc) (v := ?v3zc) ?hi3zc (by kernel_rfl) (by kernel_rfl) (by kernel_rfl) ?hQ3zc ?hy3zc (by assumption) ?rest3zc
            case hi3zc => simp only [List.getElem?_toArray, List.getElem?_cons_succ, List.getElem?_cons_zero]; rfl
            case hQ3zc => exact fun _ _ _ h => h
            case hy3zc => refine Or.inl ⟨by rfl, ?_⟩; intro w hSw; (try dsimp only at hSw); go_simp; try with_reducible rfl
            try simp only [Act.put, List.setIfInBounds_toArray, List.set_cons_zero, List.set_cons_succ]
            refine wpAnyH_take (i := 4) (oi := ?oi4zc) (v := ?v4zc) ?hi4zc (by kernel_rfl) (by kernel_rfl) (by kernel_rfl) ?hQ4zc ?hy4zc (by assumption) ?rest4zc
            case hi4zc => simp only [List.getElem?_toArray, List.getElem?_cons_succ, List.getElem?_cons_zero]; rfl
            case hQ4zc => exact fun _ _ _ h => h
            case hy4zc => refine Or.inl ⟨by rfl, ?_⟩; intro w hSw; (try dsimp only at hSw); go_simp; try with_reducible rfl
            try simp only [Act.put, List.setIfInBounds_toArray, List.set_cons_zero, List.set_cons_succ]
            refine wpAnyH_ready (rs := [5]) (by kernel_rfl) (by simp) ?_
            refine AllReadyH.cons rfl (fun K hK => ?_) AllReadyH.nil
            go_simp
            refine hK.out _ _ ?_ (fun hHeld => ?_)
            · exact t1
            clear hK K
            try simp only [Act.put, List.setIfInBounds_toArray, List.set_cons_zero, List.set_cons_succ]
            refine wpAnyH_ready (rs := [6]) (by kernel_rfl) (by simp) ?_
            refine AllReadyH.cons rfl (fun K hK => ?_) AllReadyH.nil
            go_simp
            go_at_call 58
            refine (Fill_calls hb n S.W mv (some ⟨w9.heap.size, 0, none⟩) 8 (List.replicate 8 0) _ (src8 hT10) B _ (memK hT10)).mono ?_
            rintro e w10 ⟨rfl, hH10, hB10⟩
            have t2 := hH10.cell [_, _] _ 0 (v := ptrV hb) rfl
            unfold ptrV at t2
            try dsimp only
            refine hK.out _ _ ?_ (fun hHeld => ?_)
            · exact t2
            clear hK K
            try simp only [Act.put, List.setIfInBounds_toArray, List.set_cons_zero, List.set_cons_succ]
            refine wpAnyH_done (by kernel_rfl) ?_ _
            have bU := bT10.trans hB10
            clear hHeld t0 t1 t2 hT9 hD9 bD9 bT10 bS mk
            go_wp2_with fail
            go_ret2
            refine ⟨rfl, ?_, bU⟩
            have hms : makeS n S k = ⟨fillW S.W n mv (List.replicate 8 0), S.F.dropLast, S.ps ++ [newPg mv k]⟩ := by unfold makeS; rw [if_pos HMB.out, HTV.out]; rfl
            rw [hms]
            have hfk : findK S.ps k = none := by simpa using HFB.out
            have hp := HP.out.make hfk (of_decide_eq_true HRB.out) HTB.out
            rw [HTV.out] at hp
            have e : (q ++ [(sz, newPg mv k)]).map Prod.snd = S.ps ++ [newPg mv k] := by rw [List.map_append, HQ.out]; rfl
            rw [← e] at hp
            have h11 := StoA.shut fb _ (q ++ [(sz, newPg mv k)]) hp (stoFin hH10)
            rw [e] at h11
            exact Has.drop (fromX h11)

end Go.Proofs.Yteeapkndappnoaa
