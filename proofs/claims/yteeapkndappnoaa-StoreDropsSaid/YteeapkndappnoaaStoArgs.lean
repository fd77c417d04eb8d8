/-
  What the laws of layer 14 are handed: calls; a key. And a call of the program's.
-/
import Derived.Test.YteeapkndappnoaaStoM
import Derived.Test.YteeapkndappnoaaArgs
namespace Go.Proofs.Yteeapkndappnoaa
open Go.RowKit Go.Deep Go.ChangeShapes Go.WideShapes
set_option linter.unusedVariables false
set_option linter.unusedSimpArgs false

/-- A call. -/
structure OpS where
  what : Int
  k : KeyS
  p : Int
  i : Int
  to : Int
  h : Int
  r : Bool × Bool × Bool
def opL (o : OpS) : List Value := [.int .i64 o.what, .int .i64 o.k.g, .int .i64 o.k.lv, .int .i64 o.k.ro, .int .i64 o.p, .int .i64 o.i, .int .i64 o.to, .int .i64 o.h, .bool o.r.1, .bool o.r.2.1, .bool o.r.2.2]
structure KeyOk (k : KeyS) : Prop where
  g : (Lit.int .i64 k.g).wf = true
  lv : (Lit.int .i64 k.lv).wf = true
  ro : (Lit.int .i64 k.ro).wf = true
structure OpOk (o : OpS) : Prop where
  k : KeyOk o.k
  p : (Lit.int .i64 o.p).wf = true
  i : (Lit.int .i64 o.i).wf = true
  to : (Lit.int .i64 o.to).wf = true
  h : (Lit.int .i64 o.h).wf = true

theorem open_keyL {H : Type} {enc : TypeId × Value → H} {w : World} {base : Nat} {spare : Nat → Bool} {held : Bool} (fuel : Nat) (cs : List Value) (x : DataW H × List MemPlace)
    (h : DataW.trod enc Try.prog w base spare held fuel 31 cs = some x) : ∃ k, cs = keyL k ∧ KeyOk k := by
  have hl := open_struct_len Try.underlying31 h
  have hs : Try.prog.cellsOf 31 = 3 := by kernel_rfl
  rw [hs] at hl
  obtain ⟨a0, h0, w0⟩ := open_int_field Try.underlying31 h 0 0 (e := 3) (by kernel_rfl) Try.underlying3 (by kernel_rfl)
  obtain ⟨a1, h1, w1⟩ := open_int_field Try.underlying31 h 1 1 (e := 3) (by kernel_rfl) Try.underlying3 (by kernel_rfl)
  obtain ⟨a2, h2, w2⟩ := open_int_field Try.underlying31 h 2 2 (e := 3) (by kernel_rfl) Try.underlying3 (by kernel_rfl)
  refine ⟨⟨a0, a1, a2⟩, ?_, ⟨w0, w1, w2⟩⟩
  match cs, hl with
  | [c0, c1, c2], _ =>
    simp at h0 h1 h2
    rw [h0, h1, h2]
    rfl
theorem open_key {H : Type} {enc : TypeId × Value → H} {w : World} {base : Nat} {spare : Nat → Bool} {held : Bool} {cs : Array Value} {d : DataW H} {q : List MemPlace}
    (h : DataW.Trod enc Try.prog w base spare held 31 (.agg cs) d q) : ∃ k : KeyS, cs = keyC k ∧ KeyOk k := by
  obtain ⟨fuel, hf⟩ := h
  obtain ⟨k, h1, h2⟩ := open_keyL _ _ _ hf
  refine ⟨k, ?_, h2⟩
  obtain ⟨l⟩ := cs
  simp only [Value.cells] at h1
  subst h1
  rfl
set_option maxRecDepth 100000 in
theorem open_sop {H : Type} {enc : TypeId × Value → H} {w : World} {base : Nat} {spare : Nat → Bool} {held : Bool} (fuel : Nat) (cs : List Value) (x : DataW H × List MemPlace)
    (h : DataW.trod enc Try.prog w base spare held fuel 35 cs = some x) : ∃ o, cs = opL o ∧ OpOk o := by
  have hl := open_struct_len Try.underlying35 h
  have hs : Try.prog.cellsOf 35 = 11 := by kernel_rfl
  rw [hs] at hl
  obtain ⟨a0, h0, w0⟩ := open_int_field Try.underlying35 h 0 0 (e := 3) (by kernel_rfl) Try.underlying3 (by kernel_rfl)
  obtain ⟨a4, h4, w4⟩ := open_int_field Try.underlying35 h 2 4 (e := 3) (by kernel_rfl) Try.underlying3 (by kernel_rfl)
  obtain ⟨a5, h5, w5⟩ := open_int_field Try.underlying35 h 3 5 (e := 3) (by kernel_rfl) Try.underlying3 (by kernel_rfl)
  obtain ⟨a6, h6, w6⟩ := open_int_field Try.underlying35 h 4 6 (e := 3) (by kernel_rfl) Try.underlying3 (by kernel_rfl)
  obtain ⟨a7, h7, w7⟩ := open_int_field Try.underlying35 h 5 7 (e := 3) (by kernel_rfl) Try.underlying3 (by kernel_rfl)
  obtain ⟨n, y, hy⟩ := open_field Try.underlying35 h 1 _ rfl
  have hr : Try.prog.cellsOf 31 = 3 := by kernel_rfl
  have hy : DataW.trod enc Try.prog w base spare held n 31 ((cs.drop 1).take (Try.prog.cellsOf 31)) = some y := hy
  rw [hr] at hy
  obtain ⟨k, hk, hok⟩ := open_keyL _ _ _ hy
  obtain ⟨n2, y2, hy2⟩ := open_field Try.underlying35 h 6 _ rfl
  have hr2 : Try.prog.cellsOf 33 = 3 := by kernel_rfl
  have hy2 : DataW.trod enc Try.prog w base spare held n2 33 ((cs.drop 8).take (Try.prog.cellsOf 33)) = some y2 := hy2
  rw [hr2] at hy2
  obtain ⟨b0, g0⟩ := open_bool_field Try.underlying33 hy2 0 0 (e := 4) (by kernel_rfl) Try.underlying4 (by kernel_rfl)
  obtain ⟨b1, g1⟩ := open_bool_field Try.underlying33 hy2 1 1 (e := 4) (by kernel_rfl) Try.underlying4 (by kernel_rfl)
  obtain ⟨b2, g2⟩ := open_bool_field Try.underlying33 hy2 2 2 (e := 4) (by kernel_rfl) Try.underlying4 (by kernel_rfl)
  refine ⟨⟨a0, k, a4, a5, a6, a7, (b0, b1, b2)⟩, ?_, ⟨hok, w4, w5, w6, w7⟩⟩
  match cs, hl with
  | [c0, c1, c2, c3, c4, c5, c6, c7, c8, c9, c10], _ =>
    simp [keyL] at h0 h4 h5 h6 h7 g0 g1 g2 hk
    obtain ⟨e1, e2, e3⟩ := hk
    rw [h0, h4, h5, h6, h7, g0, g1, g2, e1, e2, e3]
    rfl
theorem open_sops {H : Type} {enc : TypeId × Value → H} {w : World} {base : Nat} {spare : Nat → Bool} {held : Bool} {a : Option Addr} {len cap : Nat} {d : DataW H} {p : List MemPlace}
    (h : DataW.Trod enc Try.prog w base spare held 22 (.slice a len cap) d p) : ∃ l : List OpS, l.length = len ∧ ArgRow w 11 a len (l.flatMap opL) ∧ ∀ x ∈ l, OpOk x :=
  open_row opL OpOk 11 (fun _ => rfl) (by decide) Try.underlying22 (by kernel_rfl) open_sop h
theorem sops_len {w : World} {a : Option Addr} {len : Nat} {l : List OpS} (h : ArgRow w 11 a len (l.flatMap opL)) : l.length = len := by
  have h1 := h.lc
  rw [flat_length opL 11 (fun _ => rfl)] at h1
  omega
/-- A call's cells, now and later. -/
theorem sops_at {l : List OpS} {w w' : World} {a : Option Addr} {len : Nat} (hA : ArgRow w 11 a len (l.flatMap opL)) (hb : Below w.heap.size w w') {k : Nat} {o : OpS} (hk : l[k]? = some o) : ∃ b of, a = some ⟨b, of, none⟩ ∧ ∀ i u, (opL o)[i]? = some u → w'.cell? ((⟨b, of + k * 11, none⟩ : Addr).add i) = some u := by
  have hlen := sops_len hA
  have hkl := (List.getElem?_eq_some_iff.1 hk).1
  obtain ⟨b, of, rfl, hbw, hc⟩ := hA.mem (by omega)
  refine ⟨b, of, rfl, fun i u hu => ?_⟩
  have hi : i < 11 := by have := (List.getElem?_eq_some_iff.1 hu).1; simpa [opL] using this
  have e : (⟨b, of + k * 11, none⟩ : Addr).add i = ⟨b, of + (k * 11 + i), none⟩ := by unfold Addr.add; split <;> simp_all <;> omega
  rw [e]
  refine (hb.cell (p := ⟨b, of + (k * 11 + i), none⟩) hbw).trans (hc _ _ ?_)
  rw [flat_get opL 11 (fun _ => rfl) l k i o hk hi]
  exact hu
theorem op_size : (Try.prog.info? 35).map (fun i => i.size) = some 11 := by kernel_rfl

/-! ### a call of the program's -/
def playS (n : Nat) (S : StS) (o : OpS) : StS :=
  if o.what = 0 ∨ o.what = 1 then makeS n S o.k else if o.what = 2 ∨ o.what = 3 then childS n S o.p o.i o.to o.r else if o.what = 4 ∨ o.what = 5 then leafS n S o.p o.i o.to o.h o.r else if o.what = 6 then clearS n S o.p o.i else dropS n S o.p
def playI (S : StS) (o : OpS) : Int := if o.what = 0 ∨ o.what = 1 then makeV S o.k else 0
def playB (n : Nat) (S : StS) (o : OpS) : Bool :=
  if o.what = 0 ∨ o.what = 1 then makeB S o.k else if o.what = 2 ∨ o.what = 3 then childB S o.p o.i o.to else if o.what = 4 ∨ o.what = 5 then leafB n S o.p o.i o.h else if o.what = 6 then clearB S o.p o.i else dropB S o.p
def runS (n : Nat) (S : StS) (l : List OpS) : StS := l.foldl (playS n) S
theorem runS_succ {n : Nat} {S : StS} {l : List OpS} {k : Nat} {o : OpS} (h : l[k]? = some o) : runS n S (l.take (k + 1)) = playS n (runS n S (l.take k)) o := by
  unfold runS
  rw [List.take_add_one, h, List.foldl_append]
  rfl

set_option maxHeartbeats 2000000 in
set_option maxRecDepth 100000 in
theorem play_calls (sb hb n : Nat) (first many : Int) (S : StS) (o : OpS) (ho : OpOk o) (w : World) (B : Nat) (X : List Asr) (hH : Has w B (staL sb hb n first many S X)) :
    Calls Try.prog 13 #[.pointer (some ⟨sb, 0, none⟩), .agg (opL o).toArray] w fun e w' => e = .returned (.tuple #[.int .i64 (playI S o), .bool (playB n S o)]) ∧ Has w' B (staL sb hb n first many (playS n S o) X) ∧ Below B w w' := by
  obtain ⟨bb, hbb⟩ : ∃ b, w.heap.size = b := ⟨_, rfl⟩
  have hN : Has (w.alloc (.cells (opL o).toArray 35)) B (staL sb hb n first many S (blk bb 35 (opL o).toArray :: X)) := toX (hH.newblk bb 35 (opL o).toArray hbb)
  have bN := below_new (Below.refl B w) hH (.cells (opL o).toArray 35)
  have c0 := hN.cell [_, _] _ 0 (v := .int .i64 o.what) rfl
  have c1 := hN.cell [_, _] _ 1 (v := .int .i64 o.k.g) rfl
  have c2 := hN.cell [_, _] _ 2 (v := .int .i64 o.k.lv) rfl
  have c3 := hN.cell [_, _] _ 3 (v := .int .i64 o.k.ro) rfl
  have c4 := hN.cell [_, _] _ 4 (v := .int .i64 o.p) rfl
  have c5 := hN.cell [_, _] _ 5 (v := .int .i64 o.i) rfl
  have c6 := hN.cell [_, _] _ 6 (v := .int .i64 o.to) rfl
  have c7 := hN.cell [_, _] _ 7 (v := .int .i64 o.h) rfl
  have c8 := hN.cell [_, _] _ 8 (v := .bool o.r.1) rfl
  have c9 := hN.cell [_, _] _ 9 (v := .bool o.r.2.1) rfl
  have c10 := hN.cell [_, _] _ 10 (v := .bool o.r.2.2) rfl
  obtain ⟨pi, hpi⟩ : ∃ v, playI S o = v := ⟨_, rfl⟩
  obtain ⟨pb, hpb⟩ : ∃ v, playB n S o = v := ⟨_, rfl⟩
  obtain ⟨pS, hpS⟩ : ∃ v, playS n S o = v := ⟨_, rfl⟩
  have H1 := hpi
  have H2 := hpb
  have H3 := hpS
  unfold playI at H1
  unfold playB at H2
  unfold playS at H3
  rw [hpi, hpb, hpS]
  clear hpi hpb hpS hH
  by_cases h0 : o.what = 0
  · have e0 : (o.what == 0) = true := by rw [beq_iff_eq]; exact h0
    rw [if_pos (Or.inl h0)] at H1
    rw [if_pos (Or.inl h0)] at H2 H3
    subst H1 H2 H3
    have CC := hid (Make_calls sb hb n first many S o.k _ B _ hN)
    clear hN h0
    go_enter Try.func13, Try.ntmps13
    go_wp2_with fail
    refine CC.out.mono ?_
    rintro e w2 ⟨rfl, hH2, hB2⟩
    go_wp2_with fail
    go_ret2
    exact ⟨rfl, Has.drop (fromX hH2), bN.trans hB2⟩
  have e0 : (o.what == 0) = false := by rw [beq_eq_false_iff_ne]; exact h0
  by_cases h1 : o.what = 1
  · have e1 : (o.what == 1) = true := by rw [beq_iff_eq]; exact h1
    rw [if_pos (Or.inr h1)] at H1
    rw [if_pos (Or.inr h1)] at H2 H3
    subst H1 H2 H3
    have CC := hid (Make_calls sb hb n first many S o.k _ B _ hN)
    clear hN h0 h1
    go_enter Try.func13, Try.ntmps13
    go_wp2_with fail
    refine CC.out.mono ?_
    rintro e w2 ⟨rfl, hH2, hB2⟩
    go_wp2_with fail
    go_ret2
    exact ⟨rfl, Has.drop (fromX hH2), bN.trans hB2⟩
  have e1 : (o.what == 1) = false := by rw [beq_eq_false_iff_ne]; exact h1
  by_cases h2 : o.what = 2
  · have e2 : (o.what == 2) = true := by rw [beq_iff_eq]; exact h2
    rw [if_neg (not_or.2 ⟨h0, h1⟩)] at H1
    rw [if_neg (not_or.2 ⟨h0, h1⟩), if_pos (Or.inl h2)] at H2 H3
    subst H1 H2 H3
    have CC := hid (Child_calls sb hb n first many S o.p o.i o.to o.r _ B _ hN)
    clear hN h0 h1 h2
    go_enter Try.func13, Try.ntmps13
    go_wp2_with fail
    refine CC.out.mono ?_
    rintro e w2 ⟨rfl, hH2, hB2⟩
    go_wp2_with fail
    go_ret2
    exact ⟨rfl, Has.drop (fromX hH2), bN.trans hB2⟩
  have e2 : (o.what == 2) = false := by rw [beq_eq_false_iff_ne]; exact h2
  by_cases h3 : o.what = 3
  · have e3 : (o.what == 3) = true := by rw [beq_iff_eq]; exact h3
    rw [if_neg (not_or.2 ⟨h0, h1⟩)] at H1
    rw [if_neg (not_or.2 ⟨h0, h1⟩), if_pos (Or.inr h3)] at H2 H3
    subst H1 H2 H3
    have CC := hid (Child_calls sb hb n first many S o.p o.i o.to o.r _ B _ hN)
    clear hN h0 h1 h2 h3
    go_enter Try.func13, Try.ntmps13
    go_wp2_with fail
    refine CC.out.mono ?_
    rintro e w2 ⟨rfl, hH2, hB2⟩
    go_wp2_with fail
    go_ret2
    exact ⟨rfl, Has.drop (fromX hH2), bN.trans hB2⟩
  have e3 : (o.what == 3) = false := by rw [beq_eq_false_iff_ne]; exact h3
  by_cases h4 : o.what = 4
  · have e4 : (o.what == 4) = true := by rw [beq_iff_eq]; exact h4
    rw [if_neg (not_or.2 ⟨h0, h1⟩)] at H1
    rw [if_neg (not_or.2 ⟨h0, h1⟩), if_neg (not_or.2 ⟨h2, h3⟩), if_pos (Or.inl h4)] at H2 H3
    subst H1 H2 H3
    have CC := hid (Leaf_calls sb hb n first many S o.p o.i o.to o.h o.r _ B _ hN)
    clear hN h0 h1 h2 h3 h4
    go_enter Try.func13, Try.ntmps13
    go_wp2_with fail
    refine CC.out.mono ?_
    rintro e w2 ⟨rfl, hH2, hB2⟩
    go_wp2_with fail
    go_ret2
    exact ⟨rfl, Has.drop (fromX hH2), bN.trans hB2⟩
  have e4 : (o.what == 4) = false := by rw [beq_eq_false_iff_ne]; exact h4
  by_cases h5 : o.what = 5
  · have e5 : (o.what == 5) = true := by rw [beq_iff_eq]; exact h5
    rw [if_neg (not_or.2 ⟨h0, h1⟩)] at H1
    rw [if_neg (not_or.2 ⟨h0, h1⟩), if_neg (not_or.2 ⟨h2, h3⟩), if_pos (Or.inr h5)] at H2 H3
    subst H1 H2 H3
    have CC := hid (Leaf_calls sb hb n first many S o.p o.i o.to o.h o.r _ B _ hN)
    clear hN h0 h1 h2 h3 h4 h5
    go_enter Try.func13, Try.ntmps13
    go_wp2_with fail
    refine CC.out.mono ?_
    rintro e w2 ⟨rfl, hH2, hB2⟩
    go_wp2_with fail
    go_ret2
    exact ⟨rfl, Has.drop (fromX hH2), bN.trans hB2⟩
  have e5 : (o.what == 5) = false := by rw [beq_eq_false_iff_ne]; exact h5
  by_cases h6 : o.what = 6
  · have e6 : (o.what == 6) = true := by rw [beq_iff_eq]; exact h6
    rw [if_neg (not_or.2 ⟨h0, h1⟩)] at H1
    rw [if_neg (not_or.2 ⟨h0, h1⟩), if_neg (not_or.2 ⟨h2, h3⟩), if_neg (not_or.2 ⟨h4, h5⟩), if_pos h6] at H2 H3
    subst H1 H2 H3
    have CC := hid (Clear_calls sb hb n first many S o.p o.i _ B _ hN)
    clear hN h0 h1 h2 h3 h4 h5 h6
    go_enter Try.func13, Try.ntmps13
    go_wp2_with fail
    refine CC.out.mono ?_
    rintro e w2 ⟨rfl, hH2, hB2⟩
    go_wp2_with fail
    go_ret2
    exact ⟨rfl, Has.drop (fromX hH2), bN.trans hB2⟩
  have e6 : (o.what == 6) = false := by rw [beq_eq_false_iff_ne]; exact h6
  rw [if_neg (not_or.2 ⟨h0, h1⟩)] at H1
  rw [if_neg (not_or.2 ⟨h0, h1⟩), if_neg (not_or.2 ⟨h2, h3⟩), if_neg (not_or.2 ⟨h4, h5⟩), if_neg h6] at H2 H3
  subst H1 H2 H3
  have CC := hid (Drop_calls sb hb n first many S o.p ho.p _ B _ hN)
  clear hN h0 h1 h2 h3 h4 h5 h6
  go_enter Try.func13, Try.ntmps13
  go_wp2_with fail
  refine CC.out.mono ?_
  rintro e w2 ⟨rfl, hH2, hB2⟩
  go_wp2_with fail
  go_ret2
  exact ⟨rfl, Has.drop (fromX hH2), bN.trans hB2⟩

end Go.Proofs.Yteeapkndappnoaa
