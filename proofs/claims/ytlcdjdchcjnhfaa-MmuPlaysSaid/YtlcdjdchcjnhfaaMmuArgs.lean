/-
  What the laws of layer 15 are handed: words put, calls; and the host that is made of words.
-/
import Derived.Test.YtlcdjdchcjnhfaaMmu
import Derived.Test.YtlcdjdchcjnhfaaFrameGreat
namespace Go.Proofs.Ytlcdjdchcjnhfaa
open Go.RowKit Go.Deep Go.ChangeShapes Go.WideShapes
set_option linter.unusedVariables false
set_option linter.unusedSimpArgs false

/-- A word that is put. -/
structure PutS where
  G : Int
  I : Int
  V : Int
def putC (p : PutS) : List Value := [.int .i64 p.G, .int .i64 p.I, .int .u64 p.V]
structure PutOk (p : PutS) : Prop where
  g : (Lit.int .i64 p.G).wf = true
  i : (Lit.int .i64 p.I).wf = true
  v : (Lit.int .u64 p.V).wf = true
theorem PutOk.word {p : PutS} (h : PutOk p) : 0 ≤ p.V ∧ p.V < 18446744073709551616 := by
  have h1 := h.v
  unfold Lit.wf at h1
  rw [Bool.and_eq_true, decide_eq_true_eq, decide_eq_true_eq] at h1
  have h2 : IntKind.u64.min = 0 := by decide
  have h3 : IntKind.u64.max = 18446744073709551615 := by decide
  rw [h2, h3] at h1
  omega

theorem open_put {H : Type} {enc : TypeId × Value → H} {w : World} {base : Nat} {spare : Nat → Bool} {held : Bool} (fuel : Nat) (cs : List Value) (x : DataW H × List MemPlace)
    (h : DataW.trod enc Try.prog w base spare held fuel 36 cs = some x) : ∃ o, cs = putC o ∧ PutOk o := by
  have hl := open_struct_len Try.underlying36 h
  have hs : Try.prog.cellsOf 36 = 3 := by kernel_rfl
  rw [hs] at hl
  obtain ⟨a0, h0, w0⟩ := open_int_field Try.underlying36 h 0 0 (e := 3) (by kernel_rfl) Try.underlying3 (by kernel_rfl)
  obtain ⟨a1, h1, w1⟩ := open_int_field Try.underlying36 h 1 1 (e := 3) (by kernel_rfl) Try.underlying3 (by kernel_rfl)
  obtain ⟨a2, h2, w2⟩ := open_int_field Try.underlying36 h 2 2 (e := 34) (by kernel_rfl) Try.underlying34 (by kernel_rfl)
  refine ⟨⟨a0, a1, a2⟩, ?_, ⟨w0, w1, w2⟩⟩
  match cs, hl with
  | [c0, c1, c2], _ =>
    simp at h0 h1 h2
    rw [h0, h1, h2]
    rfl
theorem open_puts {H : Type} {enc : TypeId × Value → H} {w : World} {base : Nat} {spare : Nat → Bool} {held : Bool} {a : Option Addr} {len cap : Nat} {d : DataW H} {p : List MemPlace}
    (h : DataW.Trod enc Try.prog w base spare held 22 (.slice a len cap) d p) : ∃ l : List PutS, l.length = len ∧ ArgRow w 3 a len (l.flatMap putC) ∧ ∀ x ∈ l, PutOk x :=
  open_row putC PutOk 3 (fun _ => rfl) (by decide) Try.underlying22 (by kernel_rfl) open_put h

/-- Field i of word k, now and later. -/
theorem puts_at {l : List PutS} {w w' : World} {a : Option Addr} {len : Nat} (hA : ArgRow w 3 a len (l.flatMap putC)) (hb : Below w.heap.size w w') {b o : Nat} (ha : a = some ⟨b, o, none⟩) {k : Nat} {x : PutS} (hk : l[k]? = some x) (i : Nat) {u : Value} (hu : (putC x)[i]? = some u) : w'.cell? ⟨b, o + k * 3 + i, none⟩ = some u := by
  obtain ⟨h1, h2, h3⟩ := hA
  have hl : l.length = len := by rw [flat_length putC 3 (fun _ => rfl)] at h1; omega
  have := (List.getElem?_eq_some_iff.1 hk).1
  obtain ⟨b', o', e, hlt, hc⟩ := h3 (by omega)
  rw [ha] at e
  injection e with e
  injection e with e1 e2 e3
  subst e1 e2
  exact ArgRow.elem (f := putC) (size := 3) (fun _ => rfl) hlt hc hb k i _ hk hu
theorem puts_len {l : List PutS} {w : World} {a : Option Addr} {len : Nat} (hA : ArgRow w 3 a len (l.flatMap putC)) : l.length = len := by
  have h1 := hA.lc
  rw [flat_length putC 3 (fun _ => rfl)] at h1
  omega

/-- A call. -/
structure MOp where
  What : Int
  Root : Int
  Asid : Int
  Page : Int
  Kind : Int
  User : Bool
  F : Int
  I : Int
  V : Int
def mopC (o : MOp) : List Value := [.int .i64 o.What, .int .i64 o.Root, .int .i64 o.Asid, .int .i64 o.Page, .int .i64 o.Kind, .bool o.User, .int .i64 o.F, .int .i64 o.I, .int .u64 o.V]
structure MOk (o : MOp) : Prop where
  what : (Lit.int .i64 o.What).wf = true
  root : (Lit.int .i64 o.Root).wf = true
  asid : (Lit.int .i64 o.Asid).wf = true
  page : (Lit.int .i64 o.Page).wf = true
  kind : (Lit.int .i64 o.Kind).wf = true
  f : (Lit.int .i64 o.F).wf = true
  i : (Lit.int .i64 o.I).wf = true
  v : (Lit.int .u64 o.V).wf = true
theorem MOk.word {o : MOp} (h : MOk o) : 0 ≤ o.V ∧ o.V < 18446744073709551616 := by
  have h1 := h.v
  unfold Lit.wf at h1
  rw [Bool.and_eq_true, decide_eq_true_eq, decide_eq_true_eq] at h1
  have h2 : IntKind.u64.min = 0 := by decide
  have h3 : IntKind.u64.max = 18446744073709551615 := by decide
  rw [h2, h3] at h1
  omega
theorem open_mop {H : Type} {enc : TypeId × Value → H} {w : World} {base : Nat} {spare : Nat → Bool} {held : Bool} (fuel : Nat) (cs : List Value) (x : DataW H × List MemPlace)
    (h : DataW.trod enc Try.prog w base spare held fuel 63 cs = some x) : ∃ o, cs = mopC o ∧ MOk o := by
  have hl := open_struct_len Try.underlying63 h
  have hs : Try.prog.cellsOf 63 = 9 := by kernel_rfl
  rw [hs] at hl
  obtain ⟨a0, h0, w0⟩ := open_int_field Try.underlying63 h 0 0 (e := 3) (by kernel_rfl) Try.underlying3 (by kernel_rfl)
  obtain ⟨a1, h1, w1⟩ := open_int_field Try.underlying63 h 1 1 (e := 3) (by kernel_rfl) Try.underlying3 (by kernel_rfl)
  obtain ⟨a2, h2, w2⟩ := open_int_field Try.underlying63 h 2 2 (e := 3) (by kernel_rfl) Try.underlying3 (by kernel_rfl)
  obtain ⟨a3, h3, w3⟩ := open_int_field Try.underlying63 h 3 3 (e := 3) (by kernel_rfl) Try.underlying3 (by kernel_rfl)
  obtain ⟨a4, h4, w4⟩ := open_int_field Try.underlying63 h 4 4 (e := 3) (by kernel_rfl) Try.underlying3 (by kernel_rfl)
  obtain ⟨a5, h5⟩ := open_bool_field Try.underlying63 h 5 5 (e := 4) (by kernel_rfl) Try.underlying4 (by kernel_rfl)
  obtain ⟨a6, h6, w6⟩ := open_int_field Try.underlying63 h 6 6 (e := 3) (by kernel_rfl) Try.underlying3 (by kernel_rfl)
  obtain ⟨a7, h7, w7⟩ := open_int_field Try.underlying63 h 7 7 (e := 3) (by kernel_rfl) Try.underlying3 (by kernel_rfl)
  obtain ⟨a8, h8, w8⟩ := open_int_field Try.underlying63 h 8 8 (e := 34) (by kernel_rfl) Try.underlying34 (by kernel_rfl)
  refine ⟨⟨a0, a1, a2, a3, a4, a5, a6, a7, a8⟩, ?_, ⟨w0, w1, w2, w3, w4, w6, w7, w8⟩⟩
  match cs, hl with
  | [c0, c1, c2, c3, c4, c5, c6, c7, c8], _ =>
    simp at h0 h1 h2 h3 h4 h5 h6 h7 h8
    rw [h0, h1, h2, h3, h4, h5, h6, h7, h8]
    rfl
theorem open_mops {H : Type} {enc : TypeId × Value → H} {w : World} {base : Nat} {spare : Nat → Bool} {held : Bool} {a : Option Addr} {len cap : Nat} {d : DataW H} {p : List MemPlace}
    (h : DataW.Trod enc Try.prog w base spare held 55 (.slice a len cap) d p) : ∃ l : List MOp, l.length = len ∧ ArgRow w 9 a len (l.flatMap mopC) ∧ ∀ x ∈ l, MOk x :=
  open_row mopC MOk 9 (fun _ => rfl) (by decide) Try.underlying55 (by kernel_rfl) open_mop h
/-- Field i of call k, now and later. -/
theorem mops_at {l : List MOp} {w w' : World} {a : Option Addr} {len : Nat} (hA : ArgRow w 9 a len (l.flatMap mopC)) (hb : Below w.heap.size w w') {b o : Nat} (ha : a = some ⟨b, o, none⟩) {k : Nat} {x : MOp} (hk : l[k]? = some x) (i : Nat) {u : Value} (hu : (mopC x)[i]? = some u) : w'.cell? ⟨b, o + k * 9 + i, none⟩ = some u := by
  obtain ⟨h1, h2, h3⟩ := hA
  have hl : l.length = len := by rw [flat_length mopC 9 (fun _ => rfl)] at h1; omega
  have := (List.getElem?_eq_some_iff.1 hk).1
  obtain ⟨b', o', e, hlt, hc⟩ := h3 (by omega)
  rw [ha] at e
  injection e with e
  injection e with e1 e2 e3
  subst e1 e2
  exact ArgRow.elem (f := mopC) (size := 9) (fun _ => rfl) hlt hc hb k i _ hk hu
theorem mops_len {l : List MOp} {w : World} {a : Option Addr} {len : Nat} (hA : ArgRow w 9 a len (l.flatMap mopC)) : l.length = len := by
  have h1 := hA.lc
  rw [flat_length mopC 9 (fun _ => rfl)] at h1
  omega
theorem mops_adds {l : List MOp} {w w' : World} {a : Option Addr} {len : Nat} (hA : ArgRow w 9 a len (l.flatMap mopC)) (hb : Below w.heap.size w w') {b o : Nat} (ha : a = some ⟨b, o, none⟩) {k : Nat} {x : MOp} (hk : l[k]? = some x) : ∀ j u, (mopC x)[j]? = some u → w'.cell? ((⟨b, o + k * 9, none⟩ : Addr).add j) = some u := by
  intro j u hj
  have e : (⟨b, o + k * 9, none⟩ : Addr).add j = ⟨b, o + k * 9 + j, none⟩ := by unfold Addr.add; split <;> simp_all
  rw [e]
  exact mops_at hA hb ha hk j hj

/-! ### the host -/
/-- The words when so many have been put. -/
def putW (W : List Int) (l : List PutS) : List Int := l.foldl (fun W p => setW W 16 p.G p.I p.V) W
def madeW (l : List PutS) : List Int := putW (List.replicate (16 * 8) 0) l
theorem putW_snoc (W : List Int) (l : List PutS) (k : Nat) {x : PutS} (h : l[k]? = some x) : putW W (l.take (k + 1)) = setW (putW W (l.take k)) 16 x.G x.I x.V := by
  have hk := (List.getElem?_eq_some_iff.1 h).1
  rw [List.take_add_one, h]
  simp [putW, List.foldl_append]
theorem okW_set {W : List Int} (h : okW W) (n : Nat) (f i v : Int) (hv : 0 ≤ v ∧ v < 18446744073709551616) : okW (setW W n f i v) := by
  unfold setW
  split
  · intro x hx
    rcases List.mem_or_eq_of_mem_set hx with h' | rfl
    · exact h x h'
    · exact hv
  · exact h
theorem okW_zero (n : Nat) : okW (List.replicate n 0) := by
  intro x hx
  rw [(List.mem_replicate.1 hx).2]
  decide
theorem okW_put {W : List Int} (h : okW W) : ∀ {l : List PutS}, (∀ x ∈ l, PutOk x) → okW (putW W l) := by
  intro l
  induction l generalizing W with
  | nil => intro _; exact h
  | cons p l ih =>
    intro hl
    exact ih (okW_set h _ _ _ _ (hl p (by simp)).word) (fun x hx => hl x (by simp [hx]))
theorem okW_made {l : List PutS} (h : ∀ x ∈ l, PutOk x) : okW (madeW l) := okW_put (okW_zero _) h

/-- A thing made by a callee that knows of nothing. -/
theorem Has.made {w w' : World} {B : Nat} {A : Asr} {X : List Asr} (hX : Has w B X) (hA : Has w' w.heap.size [A]) (hb : Below w.heap.size w w') : Has w' B (A :: X) := by
  unfold Has at hA
  obtain ⟨_, S, hS, h3⟩ := hA
  obtain ⟨S1, S2, rfl, h1, h2, _⟩ := hS
  exact Has.new A hX hb.size (fun k hk => hb.block k hk) ⟨S1, h1, fun k hk => h3 k (by simp [hk])⟩

set_option maxHeartbeats 1000000 in
set_option maxRecDepth 100000 in
theorem Made_own (a : Option Addr) (cap : Nat) (l : List PutS) (w w0 : World) (hA : ArgRow w0 3 a l.length (l.flatMap putC)) (hb0 : Below w0.heap.size w0 w) :
    Calls Try.prog 11 #[.slice a l.length cap] w fun e w' => ∃ hb, e = .returned (.pointer (some ⟨hb, 0, none⟩)) ∧ Has w' w.heap.size [MemA hb 16 (madeW l)] ∧ Below w.heap.size w w' := by
  have hH0 : Has w w.heap.size [] := Has.nil (Nat.le_refl _)
  have hol := hA.small
  have HA := hid hA
  have HB0 := hid hb0
  have h0s : w0.heap.size ≤ w.heap.size := hb0.size
  clear hA hb0
  go_enter Try.func11, Try.ntmps11
  go_wp2_with fail
  refine (MemNew_yes 16 (by decide) (by decide) w _ [] hH0).mono ?_
  rintro e w2 ⟨m, rfl, hH2, hB2⟩
  go_wp2_with fail
  go_loopw [4] (fun i wr => ∃ j : Nat, j ≤ l.length ∧ i = .int .i64 j ∧ Has wr w.heap.size [MemA m 16 (putW (List.replicate (16 * 8) 0) (l.take j))] ∧ Below w.heap.size w wr) (fun i _ => l.length - (intOf i).toNat)
  case atStart => exact ⟨0, by omega, rfl, hH2, hB2⟩
  case round =>
    obtain ⟨j, hj, rfl, hHr, hBr⟩ := hrel
    clear hH2 hB2
    by_cases hlt : j < l.length
    · obtain ⟨x, hx⟩ : ∃ x, l[j]? = some x := ⟨l[j], List.getElem?_eq_getElem hlt⟩
      obtain ⟨b, p, rfl, _, _⟩ := HA.out.mem (by omega)
      have hBl : Below w0.heap.size w0 wr := HB0.out.trans (hBr.mono h0s)
      have k0 := puts_at HA.out hBl rfl hx 0 (u := .int .i64 x.G) rfl
      rw [Nat.add_zero] at k0
      have k1 := puts_at HA.out hBl rfl hx 1 (u := .int .i64 x.I) rfl
      have k2 := puts_at HA.out hBl rfl hx 2 (u := .int .u64 x.V) rfl
      have hW := putW_snoc (List.replicate (16 * 8) 0) l j hx
      have HW := hid hW
      clear hx hW hBl
      have hBd : Below w.heap.size w wr.drew := hBr.drew
      have cs := Set_calls m 16 (putW (List.replicate (16 * 8) 0) (l.take j)) x.G x.I x.V wr.drew _ _ hHr.drew
      have CS := hid cs
      clear cs
      go_wp2_with fail
      go_still_tail 16, (by kernel_rfl)
      change wpList _ _ _ _ _ (wr.drew)
      go_wp2_with fail
      refine CS.out.mono ?_
      rintro e w5 ⟨rfl, hH5, hB5⟩
      rw [← HW.out] at hH5
      go_wp2_with fail
      go_roundw
      case rel => exact ⟨j + 1, by omega, by go_num, hH5, hBd.trans hB5⟩
      case measure => simp [intOf] <;> omega
    · obtain rfl : j = l.length := by omega
      rw [List.take_length] at hHr
      go_wp2_with fail
      go_ret
      exact ⟨m, rfl, hHr, hBr⟩

theorem Made_calls (a : Option Addr) (cap : Nat) (l : List PutS) (w w0 : World) (hA : ArgRow w0 3 a l.length (l.flatMap putC)) (hb0 : Below w0.heap.size w0 w) (B : Nat) (X : List Asr) (hH : Has w B X) :
    Calls Try.prog 11 #[.slice a l.length cap] w fun e w' => ∃ hb, e = .returned (.pointer (some ⟨hb, 0, none⟩)) ∧ Has w' B (MemA hb 16 (madeW l) :: X) ∧ Below B w w' :=
  (Made_own a cap l w w0 hA hb0).mono fun e w' ⟨hb, he, hM, hB⟩ => ⟨hb, he, hH.made hM hB, hB.mono hH.le⟩

end Go.Proofs.Ytlcdjdchcjnhfaa
