/-
  The plain side of chapter 14, and how shadow pages lie in memory.
-/
import Derived.Test.YteeapkndappnoaaFreeB
import Derived.Test.YteeapkndappnoaaFrameHead
import Derived.Test.YteeapkndappnoaaWord
namespace Go.Proofs.Yteeapkndappnoaa
open Go.RowKit
set_option linter.unusedVariables false
set_option linter.unusedSimpArgs false

structure KeyS where
  g : Int
  lv : Int
  ro : Int
deriving DecidableEq
structure SlotS where
  kd : Int
  to : Int
  w : Bool
  u : Bool
  x : Bool
deriving DecidableEq
structure PageS where
  f : Int
  k : KeyS
  s : List SlotS
deriving DecidableEq
def keyL (k : KeyS) : List Value := [.int .i64 k.g, .int .i64 k.lv, .int .i64 k.ro]
def keyC (k : KeyS) : Array Value := #[.int .i64 k.g, .int .i64 k.lv, .int .i64 k.ro]
def slotL (s : SlotS) : List Value := [.int .i64 s.kd, .int .i64 s.to, .bool s.w, .bool s.u, .bool s.x]
def slotC (s : SlotS) : Array Value := #[.int .i64 s.kd, .int .i64 s.to, .bool s.w, .bool s.u, .bool s.x]
def keyZ : KeyS := ⟨0, 0, 0⟩
def slotZ : SlotS := ⟨0, 0, false, false, false⟩
def slotsL (l : List SlotS) : List Value := l.flatMap slotL
def pageL (p : PageS) : List Value := [.int .i64 p.f, .int .i64 p.k.g, .int .i64 p.k.lv, .int .i64 p.k.ro] ++ slotsL p.s
def pageC (p : PageS) : Array Value := (pageL p).toArray

theorem slotsL_length (l : List SlotS) : (slotsL l).length = l.length * 5 := flat_length slotL 5 (fun _ => rfl) l
theorem slotsL_get {l : List SlotS} {i j : Nat} {x : SlotS} {u : Value} (h : l[i]? = some x) (hj : (slotL x)[j]? = some u) : (slotsL l)[i * 5 + j]? = some u := by
  have hj5 : j < 5 := by have := (List.getElem?_eq_some_iff.1 hj).1; simpa [slotL] using this
  rw [slotsL, flat_get slotL 5 (fun _ => rfl) l i j x h hj5]
  exact hj
theorem slotsL_set (l : List SlotS) (i : Nat) (x : SlotS) (h : i < l.length) : slotsL (l.set i x) = (slotsL l).take (i * 5) ++ slotL x ++ (slotsL l).drop (i * 5 + 5) := by
  have hs : l = l.take i ++ l[i] :: l.drop (i + 1) := by rw [← List.drop_eq_getElem_cons h, List.take_append_drop]
  have e1 : slotsL l = slotsL (l.take i) ++ slotL l[i] ++ slotsL (l.drop (i + 1)) := by
    conv => lhs; rw [hs]
    simp only [slotsL, List.flatMap_append, List.flatMap_cons, List.append_assoc]
  have e2 : (slotsL (l.take i)).length = i * 5 := by rw [slotsL_length]; simp; omega
  have e3 : (slotL l[i]).length = 5 := rfl
  have e4 : l.set i x = l.take i ++ x :: l.drop (i + 1) := List.set_eq_take_append_cons_drop.trans (if_pos h)
  have e5 : slotsL (l.set i x) = slotsL (l.take i) ++ slotL x ++ slotsL (l.drop (i + 1)) := by
    rw [e4]
    simp only [slotsL, List.flatMap_append, List.flatMap_cons, List.append_assoc]
  rw [e5, e1]
  generalize slotsL (l.take i) = A at *
  generalize slotsL (l.drop (i + 1)) = D at *
  generalize slotL l[i] = M at *
  have f1 : (A ++ M ++ D).take (i * 5) = A := by rw [List.append_assoc, List.take_append_of_le_length (by omega), List.take_of_length_le (by omega)]
  have f2 : (A ++ M ++ D).drop (i * 5 + 5) = D := by rw [List.drop_append, List.drop_of_length_le (by simp; omega)]; simp [e2, e3]
  rw [f1, f2]
theorem pageL_length (p : PageS) : (pageL p).length = 4 + p.s.length * 5 := by simp [pageL, slotsL_length]; omega
theorem pageC_slot {p : PageS} {i j : Nat} {x : SlotS} {u : Value} (h : p.s[i]? = some x) (hj : (slotL x)[j]? = some u) : (pageC p)[4 + i * 5 + j]? = some u := by
  simp only [pageC, pageL, List.getElem?_toArray]
  rw [List.getElem?_append_right (by simp; omega)]
  have : 4 + i * 5 + j - [Value.int .i64 p.f, .int .i64 p.k.g, .int .i64 p.k.lv, .int .i64 p.k.ro].length = i * 5 + j := by simp; omega
  rw [this]
  exact slotsL_get h hj
/-- Another slot, in a page's cells. -/
theorem pageC_set (p : PageS) (i : Nat) (x : SlotS) (h : i < p.s.length) : ((pageL p).take (4 + i * 5) ++ slotL x ++ (pageL p).drop (4 + i * 5 + 5)).toArray = pageC { p with s := p.s.set i x } := by
  simp only [pageC, pageL, slotsL_set _ _ _ h]
  congr 1
  have e : ([Value.int .i64 p.f, .int .i64 p.k.g, .int .i64 p.k.lv, .int .i64 p.k.ro] : List Value).length = 4 := rfl
  rw [List.take_append, List.drop_append, e]
  have e1 : 4 + i * 5 - 4 = i * 5 := by omega
  have e2 : 4 + i * 5 + 5 - 4 = i * 5 + 5 := by omega
  rw [e1, e2, List.take_of_length_le (by rw [e]; omega), List.drop_of_length_le (by rw [e]; omega)]
  simp
theorem pageC_one (p : PageS) : ∀ u ∈ (pageC p).toList, u.oneCell' = true := by
  intro u hu
  simp only [pageC, pageL, List.mem_append] at hu
  rcases hu with hu | hu
  · simp at hu
    rcases hu with rfl | rfl | rfl | rfl <;> rfl
  · simp only [slotsL, List.mem_flatMap] at hu
    obtain ⟨x, _, hu⟩ := hu
    simp [slotL] at hu
    rcases hu with rfl | rfl | rfl | rfl | rfl <;> rfl

def rightK (k : KeyS) : Prop := 1 ≤ k.lv ∧ k.lv ≤ 3 ∧ 0 ≤ k.ro ∧ k.ro ≤ 2 ∧ (k.ro = 0 ∨ k.lv = 1)
instance (k : KeyS) : Decidable (rightK k) := by unfold rightK; infer_instance

def pageAt (ps : List PageS) (f : Int) : Option PageS := ps.find? fun p => p.f == f
def keyAt (ps : List PageS) (f : Int) : KeyS := match pageAt ps f with | some p => p.k | none => keyZ
def findK (ps : List PageS) (k : KeyS) : Option PageS := ps.find? fun p => decide (p.k = k)
def ofP (g : Int) (k : KeyS) : Bool := k.ro == 0 && k.g == g
def framesOf (is : KeyS → Bool) (ps : List PageS) : List Int := (ps.filter fun p => is p.k).map (·.f)
def slotAt (ps : List PageS) (f i : Int) : Option SlotS := match pageAt ps f with | some p => if 0 ≤ i ∧ i < 8 then p.s[i.toNat]? else none | none => none
/-- All slots, and where they are. -/
def allS (ps : List PageS) : List ((Int × Int) × SlotS) := ps.flatMap fun p => p.s.zipIdx.map fun x => ((p.f, (x.2 : Int)), x.1)
def tellB (kd to : Int) (x : SlotS) : Bool := x.kd == kd && x.to == to
def toldL (kd to : Int) (l : List ((Int × Int) × SlotS)) : List (Int × Int) := (l.filter fun x => tellB kd to x.2).map Prod.fst
def setSlot (ps : List PageS) (f : Int) (i : Nat) (x : SlotS) : List PageS := ps.map fun p => if p.f = f then { p with s := p.s.set i x } else p
def pteOf (x : SlotS) (h : Int) : PteS := ⟨true, x.w, x.u, false, false, false, !x.x, false, h⟩
def wordOf (x : SlotS) (h : Int) : Int := if x.kd = 0 then 0 else if putOk (pteOf x h) then (putN (pteOf x h) : Int) else 0

/-- What is always so of shadow pages. -/
structure StoP (n : Nat) (first many : Int) (F : List Int) (ps : List PageS) : Prop where
  s8 : ∀ p ∈ ps, p.s.length = 8
  ok : ∀ p ∈ ps, rightK p.k
  nd : (ps.map (·.f)).Nodup
  kd : (ps.map (·.k)).Nodup
  rg : ∀ p ∈ ps, first ≤ p.f ∧ p.f < first + many
  df : ∀ p ∈ ps, p.f ∉ F
  hn : first + many ≤ n
  ln : (F.length : Int) + ps.length = many
  ff : FreeFits first many F

/-- All there is. -/
structure StS where
  W : List Int
  F : List Int
  ps : List PageS
def putS (n : Nat) (S : StS) (f i : Int) (x : SlotS) (h : Int) : StS := { S with W := setW S.W n f i (wordOf x h), ps := setSlot S.ps f i.toNat x }
def makeB (S : StS) (k : KeyS) : Bool := (findK S.ps k).isNone && decide (rightK k) && takeB S.F
def makeS (n : Nat) (S : StS) (k : KeyS) : StS := if makeB S k then ⟨fillW S.W n (takeV S.F) (List.replicate 8 0), S.F.dropLast, S.ps ++ [⟨takeV S.F, k, List.replicate 8 slotZ⟩]⟩ else S
def makeV (S : StS) (k : KeyS) : Int := if makeB S k then takeV S.F else 0
def childB (S : StS) (f i c : Int) : Bool := (slotAt S.ps f i).isSome && (pageAt S.ps c).isSome && decide ((keyAt S.ps c).lv = (keyAt S.ps f).lv - 1)
def childS (n : Nat) (S : StS) (f i c : Int) (r : Bool × Bool × Bool) : StS := if childB S f i c then putS n S f i ⟨1, c, r.1, r.2.1, r.2.2⟩ c else S
def leafB (n : Nat) (S : StS) (f i h : Int) : Bool := (slotAt S.ps f i).isSome && decide ((keyAt S.ps f).lv = 1) && decide (0 ≤ h) && decide (h < n)
def leafS (n : Nat) (S : StS) (f i g h : Int) (r : Bool × Bool × Bool) : StS := if leafB n S f i h then putS n S f i ⟨2, g, r.1, r.2.1, r.2.2⟩ h else S
def clearB (S : StS) (f i : Int) : Bool := match slotAt S.ps f i with | some x => x.kd != 0 | none => false
def clearS (n : Nat) (S : StS) (f i : Int) : StS := if clearB S f i then putS n S f i slotZ 0 else S
def clearL (n : Nat) (S : StS) (l : List (Int × Int)) : StS := l.foldl (fun S a => clearS n S a.1 a.2) S
def clearN (n : Nat) (S : StS) (f : Int) (k : Nat) : StS := (List.range k).foldl (fun S i => clearS n S f (i : Nat)) S
def dropB (S : StS) (f : Int) : Bool := (pageAt S.ps f).isSome
/-- All that tells it is cleared, and all of it. -/
def dropC (n : Nat) (S : StS) (f : Int) : StS := clearN n (clearL n S (toldL 1 f (allS S.ps))) f 8
def dropS (n : Nat) (S : StS) (f : Int) : StS := if dropB S f then ⟨(dropC n S f).W, (dropC n S f).F ++ [f], (dropC n S f).ps.filter fun p => p.f != f⟩ else S

/-! ### in memory -/
def ptrV (b : Nat) : Value := .pointer (some ⟨b, 0, none⟩)
def ptrs (q : List (Nat × PageS)) : List Value := q.map fun x => ptrV x.1
def pgs (q : List (Nat × PageS)) : List Asr := q.map fun x => blk x.1 95 (pageC x.2)
theorem ptrs_length (q : List (Nat × PageS)) : (ptrs q).length = q.length := by simp [ptrs]
theorem ptrs_get {q : List (Nat × PageS)} {j : Nat} {x : Nat × PageS} (h : q[j]? = some x) : (ptrs q)[j]? = some (ptrV x.1) := by simp [ptrs, h]

def StoA (sb hb n : Nat) (first many : Int) (F : List Int) (ps : List PageS) : Asr :=
  Asr.ex fun x : Nat × Value × List (Nat × PageS) => Asr.and (x.2.2.map Prod.snd = ps ∧ StoP n first many F ps) <| Asr.all (blk sb 88 #[ptrV hb, ptrV x.1, x.2.1] :: row 91 1 x.2.1 x.2.2.length (ptrs x.2.2) :: FreeA x.1 first many F :: pgs x.2.2)
theorem StoA.open {sb hb n : Nat} {first many : Int} {F : List Int} {ps : List PageS} {w : World} {B : Nat} {X : List Asr} (hH : Has w B (StoA sb hb n first many F ps :: X)) :
    StoP n first many F ps ∧ ∃ (fb : Nat) (v : Value) (q : List (Nat × PageS)), q.map Prod.snd = ps ∧ Has w B (blk sb 88 #[ptrV hb, ptrV fb, v] :: row 91 1 v q.length (ptrs q) :: FreeA fb first many F :: (pgs q ++ X)) := by
  obtain ⟨⟨fb, v, q⟩, h1⟩ := hH.open_ex
  obtain ⟨⟨h2, h3⟩, h4⟩ := h1.open_and
  exact ⟨h3, fb, v, q, h2, h4.open_all⟩
theorem StoA.shut {sb hb n : Nat} {first many : Int} {F : List Int} {w : World} {B : Nat} {X : List Asr} (fb : Nat) (v : Value) (q : List (Nat × PageS)) (hP : StoP n first many F (q.map Prod.snd))
    (hH : Has w B (blk sb 88 #[ptrV hb, ptrV fb, v] :: row 91 1 v q.length (ptrs q) :: FreeA fb first many F :: (pgs q ++ X))) : Has w B (StoA sb hb n first many F (q.map Prod.snd) :: X) :=
  Has.shut_ex (A := fun x : Nat × Value × List (Nat × PageS) => Asr.and (x.2.2.map Prod.snd = q.map Prod.snd ∧ StoP n first many F (q.map Prod.snd)) <| Asr.all (blk sb 88 #[ptrV hb, ptrV x.1, x.2.1] :: row 91 1 x.2.1 x.2.2.length (ptrs x.2.2) :: FreeA x.1 first many F :: pgs x.2.2)) (fb, v, q)
    (Has.shut_and ⟨rfl, hP⟩ (Has.shut_all (blk sb 88 #[ptrV hb, ptrV fb, v] :: row 91 1 v q.length (ptrs q) :: FreeA fb first many F :: pgs q) hH))
theorem StoA.fits {sb hb n : Nat} {first many : Int} {F : List Int} {ps : List PageS} {w : World} {B : Nat} {X : List Asr} (hH : Has w B (StoA sb hb n first many F ps :: X)) : StoP n first many F ps := (StoA.open hH).1
theorem StoP.len {n : Nat} {first many : Int} {F : List Int} {ps : List PageS} (h : StoP n first many F ps) : ps.length ≤ 256 := by
  have := h.ln; have := h.ff.a1; have := h.ff.a4; omega

/-- One page among those of a list. -/
theorem pgs_split {q : List (Nat × PageS)} {j : Nat} {x : Nat × PageS} (h : q[j]? = some x) (L1 X : List Asr) : L1 ++ (pgs q ++ X) = (L1 ++ pgs (q.take j)) ++ blk x.1 95 (pageC x.2) :: (pgs (q.drop (j + 1)) ++ X) := by
  obtain ⟨hj, hv⟩ := List.getElem?_eq_some_iff.1 h
  have hs : q = q.take j ++ x :: q.drop (j + 1) := by rw [← hv, ← List.drop_eq_getElem_cons hj, List.take_append_drop]
  conv => lhs; rw [hs]
  simp [pgs]
theorem pgs_set {q : List (Nat × PageS)} {j : Nat} (hj : j < q.length) (x : Nat × PageS) (L1 X : List Asr) : (L1 ++ pgs (q.take j)) ++ blk x.1 95 (pageC x.2) :: (pgs (q.drop (j + 1)) ++ X) = L1 ++ (pgs (q.set j x) ++ X) := by
  rw [List.set_eq_take_append_cons_drop, if_pos hj]
  simp [pgs]
theorem ptrs_set {q : List (Nat × PageS)} {j b : Nat} {p p' : PageS} (h : q[j]? = some (b, p)) : ptrs (q.set j (b, p')) = ptrs q := by
  refine List.ext_getElem? fun i => ?_
  simp only [ptrs, List.getElem?_map, List.getElem?_set]
  by_cases e : j = i
  · subst e
    have := (List.getElem?_eq_some_iff.1 h).1
    have h3 := (List.getElem?_eq_some_iff.1 h).2
    simp [this, h3]
  · simp [e]
theorem pgs_at {q : List (Nat × PageS)} {j : Nat} {x : Nat × PageS} {w : World} {B : Nat} (L1 X : List Asr) (hH : Has w B (L1 ++ (pgs q ++ X))) (h : q[j]? = some x) : w.heap[x.1]? = some (.cells (pageC x.2) 95 (0, 0)) ∧ B ≤ x.1 ∧ x.1 < w.heap.size := by
  rw [pgs_split h] at hH
  exact hH.blk_at _ _

/-- What the walks read: the pages, each with its cells. -/
structure PgR (w : World) (v : Value) (q : List (Nat × PageS)) : Prop where
  prow : ∃ ao cap, v = .slice ao q.length cap ∧ (0 < q.length → ∃ g, ao = some ⟨g, 0, none⟩ ∧ ∀ (j : Nat) x, q[j]? = some x → w.cell? ⟨g, j, none⟩ = some (.pointer (some ⟨x.1, 0, none⟩)))
  ppg : ∀ (j : Nat) x, q[j]? = some x → w.heap[x.1]? = some (.cells (pageC x.2) 95 (0, 0)) ∧ x.1 < w.heap.size
theorem PgR.of {w : World} {B : Nat} {v : Value} {q : List (Nat × PageS)} {A C : Asr} {X : List Asr} (hH : Has w B (A :: row 91 1 v q.length (ptrs q) :: C :: (pgs q ++ X))) : PgR w v q := by
  refine ⟨?_, fun j x hx => ?_⟩
  · obtain ⟨ao, cap, rfl, _, _, hg⟩ := hH.row_form [_] _
    refine ⟨ao, cap, rfl, fun h0 => ?_⟩
    obtain ⟨g, rfl⟩ := hg h0
    exact ⟨g, rfl, fun j x hx => hH.row_cell [_] _ j (ptrs_get hx)⟩
  · have h := pgs_at [_, _, _] X hH hx
    exact ⟨h.1, h.2.2⟩
theorem PgR.drewN {w : World} {v : Value} {q : List (Nat × PageS)} (h : PgR w v q) (m : Nat) : PgR (w.drewN m) v q := ⟨h.prow, h.ppg⟩
theorem PgR.page {w : World} {v : Value} {q : List (Nat × PageS)} (h : PgR w v q) {j : Nat} {x : Nat × PageS} (hx : q[j]? = some x) {i : Nat} {u : Value} (hu : (pageC x.2)[i]? = some u) : w.cell? ⟨x.1, i, none⟩ = some u := cell_of_blk (h.ppg j x hx).1 hu

end Go.Proofs.Yteeapkndappnoaa
