/- The functions that the laws of this seat reach, a proof for each that the Go code comes to them, and the plain laws; merged. Conditions: none beside those of the given statements. -/
import Derived.Test.YtjofkebiacaciaaMExprMeasures1
import Derived.Test.YtjofkebiacaciaaMExprMeasures2
import Derived.Test.YtjofkebiacaciaaMExprMeasures3
import Derived.Test.YtjofkebiacaciaaMc16
section
namespace Go.Proofs.Ytjofkebiacaciaa.T04
open Go Go.RowKit Go.Proofs.Ytjofkebiacaciaa.PAll Go.Proofs.YtjofkebiacaciaaW.PrintWords Go.Proofs.YtjofkebiacaciaaW.PrintLast Go.Proofs.YtjofkebiacaciaaW.PrintMore Go.Proofs.Ytjofkebiacaciaa.AllRead24
set_option linter.all false
theorem size_ev (e : S24) : WF e → size e ≤ 400 → Ev (fun k => expr_size.f k e.f0 e.f1 e.f2) (size e : Int) := by
 induction e using ind with
 | h e ih =>
 intro hw hs
 have loop : ∀ (r pre : List S24), e.f2 = pre ++ r → ∀ m : Nat, m + sizes r ≤ 400 → Ev (fun k => expr_size.l0 k m e.f2 (e.f2.length : Int) (pre.length : Int)) ((m + sizes r : Nat) : Int) := by
  intro r
  induction r with
  | nil =>
   intro pre hp m hm
   exact Ev.to (Ev.step (f := fun _ => some (m : Int)) (fun k => by simp only [expr_size.l0]; rw [hp, if_neg (not_lt_end pre)]) (Ev.now _)) (by simp [sizes])
  | cons x r ihr =>
   intro pre hp m hm
   have hx : x ∈ e.f2 := by rw [hp]; simp
   simp only [sizes] at hm
   refine Ev.to (Ev.step (f := fun k => (expr_size.f k x.f0 x.f1 x.f2).bind fun t => expr_size.l0 k (wrap64 ((m : Int) + t)) e.f2 (e.f2.length : Int) ((pre ++ [x]).length : Int)) (fun k => ?_) (Ev.bind (ih x hx (hw.kid hx) (by omega)) ?_)) (rfl : ((m + sizes (x :: r) : Nat) : Int) = _)
   ·simp only [expr_size.l0]
    rw [← next_mid (r := r) (x := x) (by rw [← hp]; exact hw.len), hp, if_pos (lt_mid pre x r), if_pos (ge0 _), if_pos (lt_mid pre x r), rd_mid]
   ·have e1 : wrap64 ((m : Int) + (size x : Int)) = ((m + size x : Nat) : Int) := by rw [w64 (by omega) (by omega)]; omega
    rw [e1]
    exact Ev.to (ihr (pre ++ [x]) (by rw [hp]; exact shift_mid pre x r) (m + size x) (by omega)) (by simp [sizes]; omega)
 have := loop e.f2 [] rfl 1 (by rw [size_mk] at hs; exact hs)
 exact Ev.step (f := fun k => expr_size.l0 k 1 e.f2 (e.f2.length : Int) 0) (fun k => by simp only [expr_size.f]) (Ev.to this (by rw [size_mk]))
theorem depth_ev (e : S24) : WF e → size e ≤ 400 → Ev (fun k => expr_depth.f k e.f0 e.f1 e.f2) (depth e : Int) := by
 induction e using ind with
 | h e ih =>
 intro hw hs
 have loop : ∀ (r pre : List S24), e.f2 = pre ++ r → ∀ m : Nat, m ≤ 400 → Ev (fun k => expr_depth.l0 k m e.f2 (e.f2.length : Int) (pre.length : Int)) ((max m (depths r) + 1 : Nat) : Int) := by
  intro r
  induction r with
  | nil =>
   intro pre hp m hm
   exact Ev.to (Ev.step (f := fun _ => some ((m + 1 : Nat) : Int)) (fun k => by simp only [expr_depth.l0]; rw [hp, if_neg (not_lt_end pre), w64 (by omega) (by omega)]; try rfl) (Ev.now _)) (by simp [depths])
  | cons x r ihr =>
   intro pre hp m hm
   have hx : x ∈ e.f2 := by rw [hp]; simp
   have hsx : size x ≤ 400 := by have := sizes_mem hx; rw [size_mk] at hs; omega
   have hdx := depth_le_size x
   refine Ev.step (f := fun k => (expr_depth.f k x.f0 x.f1 x.f2).bind fun t => expr_depth.l0 k (mx m t) e.f2 (e.f2.length : Int) ((pre ++ [x]).length : Int)) (fun k => ?_) (Ev.bind (ih x hx (hw.kid hx) hsx) ?_)
   ·simp only [expr_depth.l0]
    rw [← next_mid (r := r) (x := x) (by rw [← hp]; exact hw.len), hp, if_pos (lt_mid pre x r), if_pos (ge0 _), if_pos (lt_mid pre x r), rd_mid]
   ·have e1 : mx (m : Int) (depth x : Int) = ((max m (depth x) : Nat) : Int) := by unfold mx; split <;> omega
    rw [e1]
    exact Ev.to (ihr (pre ++ [x]) (by rw [hp]; exact shift_mid pre x r) (max m (depth x)) (by omega)) (by simp [depths]; (try omega))
 have := loop e.f2 [] rfl 0 (by omega)
 exact Ev.step (f := fun k => expr_depth.l0 k 0 e.f2 (e.f2.length : Int) 0) (fun k => by simp only [expr_depth.f]) (Ev.to this (by rw [depth_mk]; omega))
mutual
def star : S24 → Nat
 | ⟨o, _, l⟩ => stars l + (if o = 7 then 1 else 0)
def stars : List S24 → Nat
 | [] => 0
 | x :: r => max (star x) (stars r)
end
theorem star_mk (e : S24) : star e = stars e.f2 + (if e.f0 = 7 then 1 else 0) := by cases e; rw [star]
theorem star_le_size (e : S24) : star e ≤ size e := by
 induction e using ind with
 | h e ih =>
 have : ∀ l : List S24, (∀ k, k ∈ l → star k ≤ size k) → stars l ≤ sizes l := by
  intro l
  induction l with
  | nil => intro _; simp [stars, sizes]
  | cons x r ihr =>
   intro h
   have h1 := h x (by simp)
   have h2 := ihr (fun k hk => h k (by simp [hk]))
   simp [stars, sizes]; omega
 have := this e.f2 ih
 rw [size_mk, star_mk]; split <;> omega
theorem star_ev (e : S24) : WF e → size e ≤ 400 → Ev (fun k => expr_height.f k e.f0 e.f1 e.f2) (star e : Int) ∧ Ev (fun k => semigroupref04_StarHeight.f k e.f0 e.f1 e.f2) (star e : Int) := by
 induction e using ind with
 | h e ih =>
 intro hw hs
 have loop : ∀ (r pre : List S24), e.f2 = pre ++ r → ∀ m : Nat, m ≤ 400 → Ev (fun k => expr_height.l0 k m e.f2 (e.f2.length : Int) (pre.length : Int) e.f0 e.f1 e.f2) ((max m (stars r) + (if e.f0 = 7 then 1 else 0) : Nat) : Int) ∧ Ev (fun k => semigroupref04_StarHeight.l0 k m e.f2 (e.f2.length : Int) (pre.length : Int) e.f0 e.f1 e.f2) ((max m (stars r) + (if e.f0 = 7 then 1 else 0) : Nat) : Int) := by
  intro r
  induction r with
  | nil =>
   intro pre hp m hm
   have q : (if e.f0 = 7 then some (wrap64 ((m : Int) + 1)) else some (m : Int)) = some ((max m (stars []) + (if e.f0 = 7 then 1 else 0) : Nat) : Int) := by
    by_cases h : e.f0 = 7
    ·rw [if_pos h, if_pos h, w64 (by omega) (by omega)]; simp [stars]
    ·rw [if_neg h, if_neg h]; simp [stars]
   exact ⟨Ev.step (f := fun _ => some ((max m (stars []) + (if e.f0 = 7 then 1 else 0) : Nat) : Int)) (fun k => by simp only [expr_height.l0]; rw [hp, if_neg (not_lt_end pre), q]) (Ev.now _), Ev.step (f := fun _ => some ((max m (stars []) + (if e.f0 = 7 then 1 else 0) : Nat) : Int)) (fun k => by simp only [semigroupref04_StarHeight.l0]; rw [hp, if_neg (not_lt_end pre), q]) (Ev.now _)⟩
  | cons x r ihr =>
   intro pre hp m hm
   have hx : x ∈ e.f2 := by rw [hp]; simp
   have hsx : size x ≤ 400 := by have := sizes_mem hx; rw [size_mk] at hs; omega
   have hdx := star_le_size x
   have e1 : mx (m : Int) (star x : Int) = ((max m (star x) : Nat) : Int) := by unfold mx; split <;> omega
   have hl : (pre ++ x :: r).length ≤ maxLen := by rw [← hp]; exact hw.len
   obtain ⟨k1, k2⟩ := ih x hx (hw.kid hx) hsx
   obtain ⟨g1, g2⟩ := ihr (pre ++ [x]) (by rw [hp]; exact shift_mid pre x r) (max m (star x)) (by omega)
   have ee : ((max (max m (star x)) (stars r) + (if e.f0 = 7 then 1 else 0) : Nat) : Int) = ((max m (stars (x :: r)) + (if e.f0 = 7 then 1 else 0) : Nat) : Int) := by simp [stars]; try omega
   refine ⟨Ev.step (f := fun k => (expr_height.f k x.f0 x.f1 x.f2).bind fun t => expr_height.l0 k (mx m t) e.f2 (e.f2.length : Int) ((pre ++ [x]).length : Int) e.f0 e.f1 e.f2) (fun k => ?_) (Ev.bind k1 ?_), Ev.step (f := fun k => (semigroupref04_StarHeight.f k x.f0 x.f1 x.f2).bind fun t => semigroupref04_StarHeight.l0 k (mx m t) e.f2 (e.f2.length : Int) ((pre ++ [x]).length : Int) e.f0 e.f1 e.f2) (fun k => ?_) (Ev.bind k2 ?_)⟩
   ·simp only [expr_height.l0]
    rw [← next_mid (r := r) (x := x) hl, hp, if_pos (lt_mid pre x r), if_pos (ge0 _), if_pos (lt_mid pre x r), rd_mid]
   ·rw [e1]; exact Ev.to g1 ee
   ·simp only [semigroupref04_StarHeight.l0]
    rw [← next_mid (r := r) (x := x) hl, hp, if_pos (lt_mid pre x r), if_pos (ge0 _), if_pos (lt_mid pre x r), rd_mid]
   ·rw [e1]; exact Ev.to g2 ee
 obtain ⟨g1, g2⟩ := loop e.f2 [] rfl 0 (by omega)
 exact ⟨Ev.step (f := fun k => expr_height.l0 k 0 e.f2 (e.f2.length : Int) 0 e.f0 e.f1 e.f2) (fun k => by simp only [expr_height.f]) (Ev.to g1 (by rw [star_mk]; simp)), Ev.step (f := fun k => semigroupref04_StarHeight.l0 k 0 e.f2 (e.f2.length : Int) 0 e.f0 e.f1 e.f2) (fun k => by simp only [semigroupref04_StarHeight.f]) (Ev.to g2 (by rw [star_mk]; simp))⟩
theorem uses_ev (e : S24) : WF e → Ev (fun k => semigroupref04_Uses.f k e.f0 e.f1 e.f2 7) (decide (star e ≠ 0)) := by
 induction e using ind with
 | h e ih =>
 intro hw
 have loop : ∀ (r pre : List S24), e.f2 = pre ++ r → Ev (fun k => semigroupref04_Uses.l0 k 7 e.f2 (e.f2.length : Int) (pre.length : Int)) (decide (stars r ≠ 0)) := by
  intro r
  induction r with
  | nil =>
   intro pre hp
   exact Ev.to (Ev.step (f := fun _ => some false) (fun k => by simp only [semigroupref04_Uses.l0]; rw [hp, if_neg (not_lt_end pre)]) (Ev.now _)) (by simp [stars])
  | cons x r ihr =>
   intro pre hp
   have hx : x ∈ e.f2 := by rw [hp]; simp
   refine Ev.to (Ev.step (f := fun k => (semigroupref04_Uses.f k x.f0 x.f1 x.f2 7).bind fun t => if t = true then some true else semigroupref04_Uses.l0 k 7 e.f2 (e.f2.length : Int) ((pre ++ [x]).length : Int)) (fun k => ?_) (Ev.bind (ih x hx (hw.kid hx)) (Ev.if (fun _ => Ev.now _) (fun _ => ihr (pre ++ [x]) (by rw [hp]; exact shift_mid pre x r))))) ?_
   ·simp only [semigroupref04_Uses.l0]
    rw [← next_mid (r := r) (x := x) (by rw [← hp]; exact hw.len), hp, if_pos (lt_mid pre x r), if_pos (ge0 _), if_pos (lt_mid pre x r), rd_mid]
   ·by_cases h : star x = 0
    ·simp [h, stars]
    ·simp [h, stars]
     all_goals (try omega)
 by_cases h : e.f0 = 7
 ·exact Ev.to (Ev.step (f := fun _ => some true) (fun k => by simp only [semigroupref04_Uses.f]; rw [if_pos h]) (Ev.now _)) (by rw [star_mk, if_pos h]; simp)
 ·exact Ev.to (Ev.step (f := fun k => semigroupref04_Uses.l0 k 7 e.f2 (e.f2.length : Int) 0) (fun k => by simp only [semigroupref04_Uses.f]; rw [if_neg h]) (loop e.f2 [] rfl)) (by rw [star_mk, if_neg h]; simp)
mutual
def nul : S24 → Bool
 | ⟨o, _, l⟩ => if o = 2 ∨ o = 7 then true else if o = 4 then nulOne l else if o = 5 ∨ o = 6 then nulAll l else if o = 8 then !nulOne l else false
def nulOne : List S24 → Bool
 | [] => false
 | x :: r => nul x || nulOne r
def nulAll : List S24 → Bool
 | [] => true
 | x :: r => nul x && nulAll r
end
theorem nul_mk (e : S24) : nul e = if e.f0 = 2 ∨ e.f0 = 7 then true else if e.f0 = 4 then nulOne e.f2 else if e.f0 = 5 ∨ e.f0 = 6 then nulAll e.f2 else if e.f0 = 8 then !nulOne e.f2 else false := by cases e; rw [nul]
theorem kid_shp {L : Int} {e : S24} (h : shp L e = true) {x : S24} (hx : x ∈ e.f2) : shp L x = true := by
 rw [shp_mk] at h
 simp at h
 exact shps_mem h.2.2 hx
theorem not_one {L : Int} {e : S24} (h : shp L e = true) (h8 : e.f0 = 7 ∨ e.f0 = 8) : ∃ x, e.f2 = [x] := by
 rw [shp_mk] at h
 simp at h
 have := h.1
 unfold opKids at this
 rw [if_neg (by omega), if_pos h8] at this
 have := of_decide_eq_true this
 exact List.length_eq_one_iff.mp this
theorem nul_prog (e : S24) : WF e → shp 6 e = true → Ev (fun k => simplify_Nullable.f k e.f0 e.f1 e.f2) (nul e) := by
 induction e using ind with
 | h e ih =>
 intro hw hs
 have lone : ∀ (r pre : List S24), e.f2 = pre ++ r → Ev (fun k => simplify_Nullable.l0 k e.f2 (e.f2.length : Int) (pre.length : Int)) (nulOne r) := by
  intro r
  induction r with
  | nil =>
   intro pre hp
   exact Ev.step (f := fun _ => some false) (fun k => by simp only [simplify_Nullable.l0]; rw [hp, if_neg (not_lt_end pre)]) (Ev.now _)
  | cons x r ihr =>
   intro pre hp
   have hx : x ∈ e.f2 := by rw [hp]; simp
   refine Ev.to (Ev.step (f := fun k => (simplify_Nullable.f k x.f0 x.f1 x.f2).bind fun t => if t = true then some true else simplify_Nullable.l0 k e.f2 (e.f2.length : Int) ((pre ++ [x]).length : Int)) (fun k => ?_) (Ev.bind (ih x hx (hw.kid hx) (kid_shp hs hx)) (Ev.if (fun _ => Ev.now _) (fun _ => ihr (pre ++ [x]) (by rw [hp]; exact shift_mid pre x r))))) ?_
   ·simp only [simplify_Nullable.l0]
    rw [← next_mid (r := r) (x := x) (by rw [← hp]; exact hw.len), hp, if_pos (lt_mid pre x r), if_pos (ge0 _), if_pos (lt_mid pre x r), rd_mid]
   ·rw [nulOne]; cases nul x <;> simp
 have lall : ∀ (r pre : List S24), e.f2 = pre ++ r → Ev (fun k => simplify_Nullable.l1 k e.f2 (e.f2.length : Int) (pre.length : Int)) (nulAll r) := by
  intro r
  induction r with
  | nil =>
   intro pre hp
   exact Ev.step (f := fun _ => some true) (fun k => by simp only [simplify_Nullable.l1]; rw [hp, if_neg (not_lt_end pre)]) (Ev.now _)
  | cons x r ihr =>
   intro pre hp
   have hx : x ∈ e.f2 := by rw [hp]; simp
   refine Ev.to (Ev.step (f := fun k => (simplify_Nullable.f k x.f0 x.f1 x.f2).bind fun t => if t = true then simplify_Nullable.l1 k e.f2 (e.f2.length : Int) ((pre ++ [x]).length : Int) else some false) (fun k => ?_) (Ev.bind (ih x hx (hw.kid hx) (kid_shp hs hx)) (Ev.if (fun _ => ihr (pre ++ [x]) (by rw [hp]; exact shift_mid pre x r)) (fun _ => Ev.now _)))) ?_
   ·simp only [simplify_Nullable.l1]
    rw [← next_mid (r := r) (x := x) (by rw [← hp]; exact hw.len), hp, if_pos (lt_mid pre x r), if_pos (ge0 _), if_pos (lt_mid pre x r), rd_mid]
   ·rw [nulAll]; cases nul x <;> simp
 have j2 : ∀ b, Ev (fun k => simplify_Nullable.j2 k e.f0 b e.f0 e.f1 e.f2) (if b = true then nulAll e.f2 else if e.f0 = 8 then !nulOne e.f2 else false) := fun b =>
  Ev.step (f := fun k => if b = true then simplify_Nullable.l1 k e.f2 (e.f2.length : Int) 0 else if e.f0 = 8 then (if 0 < (e.f2.length : Int) then ((simplify_Nullable.f k ((rd_T24 e.f2 0).f0) ((rd_T24 e.f2 0).f1) ((rd_T24 e.f2 0).f2)).bind fun t => some (!t)) else none) else some false) (fun k => by simp only [simplify_Nullable.j2]) (Ev.if (fun _ => lall e.f2 [] rfl) (fun _ => Ev.if (fun h8 => by
   obtain ⟨x, hx⟩ := not_one hs (.inr h8)
   have hm : x ∈ e.f2 := by rw [hx]; simp
   have hx' := ih x hm (hw.kid hm) (kid_shp hs hm)
   rw [hx]
   simp only [List.length_singleton, rd_head]
   simp only [show ((0 : Int) < ((1 : Nat) : Int)) = True from by simp, if_true]
   exact Ev.to (Ev.bind (f := fun _ t => some (!t)) hx' (Ev.now _)) (by simp [nulOne])) (fun _ => Ev.now _)))
 have j0 : ∀ b, Ev (fun k => simplify_Nullable.j0 k e.f0 b e.f0 e.f1 e.f2) (if b = true then true else if e.f0 = 4 then nulOne e.f2 else if e.f0 = 5 then nulAll e.f2 else if e.f0 = 6 then nulAll e.f2 else if e.f0 = 8 then !nulOne e.f2 else false) := fun b =>
  Ev.to (Ev.step (f := fun k => if b = true then some true else if e.f0 = 4 then simplify_Nullable.l0 k e.f2 (e.f2.length : Int) 0 else if e.f0 = 5 then simplify_Nullable.j2 k e.f0 (e.f0 == 5) e.f0 e.f1 e.f2 else simplify_Nullable.j2 k e.f0 (e.f0 == 6) e.f0 e.f1 e.f2) (fun k => by simp only [simplify_Nullable.j0]) (Ev.if (fun _ => Ev.now _) (fun _ => Ev.if (fun _ => lone e.f2 [] rfl) (fun _ => Ev.if (fun _ => j2 _) (fun _ => j2 _))))) (by
   cases b with
   | true => simp
   | false =>
    by_cases h4 : e.f0 = 4
    ·simp [h4]
    ·by_cases h5 : e.f0 = 5
     ·simp [h5]
     ·by_cases h6 : e.f0 = 6 <;> simp [h4, h5, h6])
 refine Ev.to (Ev.step (f := fun k => if e.f0 = 2 then simplify_Nullable.j0 k e.f0 (e.f0 == 2) e.f0 e.f1 e.f2 else simplify_Nullable.j0 k e.f0 (e.f0 == 7) e.f0 e.f1 e.f2) (fun k => by simp only [simplify_Nullable.f]) (Ev.if (fun _ => j0 _) (fun _ => j0 _))) ?_
 rw [nul_mk]
 by_cases h2 : e.f0 = 2
 ·simp [h2]
 ·by_cases h7 : e.f0 = 7
  ·simp [h7]
  ·by_cases h4 : e.f0 = 4
   ·simp [h4]
   ·by_cases h5 : e.f0 = 5
    ·simp [h5]
    ·by_cases h6 : e.f0 = 6 <;> simp [h2, h7, h4, h5, h6]
theorem nul_ref (e : S24) : WF e → Ev (fun k => semigroupref04_Nullable.f k e.f0 e.f1 e.f2) (nul e) := by
 induction e using ind with
 | h e ih =>
 intro hw
 have j2 : ∀ a b c, Ev (fun k => semigroupref04_Nullable.j2 k a b e.f0 c) (if c = true then a else if e.f0 = 8 then !b else false) := fun a b c =>
  Ev.step (f := fun k => if c = true then some a else if e.f0 = 8 then some (!b) else some false) (fun k => by simp only [semigroupref04_Nullable.j2]) (Ev.if (fun _ => Ev.now _) (fun _ => Ev.if (fun _ => Ev.now _) (fun _ => Ev.now _)))
 have j1 : ∀ a b c, Ev (fun k => semigroupref04_Nullable.j1 k a b e.f0 c) (if c = true then true else if e.f0 = 4 then b else if e.f0 = 5 ∨ e.f0 = 6 then a else if e.f0 = 8 then !b else false) := fun a b c =>
  Ev.to (Ev.step (f := fun k => if c = true then some true else if e.f0 = 4 then some b else if e.f0 = 5 then semigroupref04_Nullable.j2 k a b e.f0 (e.f0 == 5) else semigroupref04_Nullable.j2 k a b e.f0 (e.f0 == 6)) (fun k => by simp only [semigroupref04_Nullable.j1]) (Ev.if (fun _ => Ev.now _) (fun _ => Ev.if (fun _ => Ev.now _) (fun _ => Ev.if (fun _ => j2 _ _ _) (fun _ => j2 _ _ _))))) (by
   by_cases h5 : e.f0 = 5
   ·simp [h5]
   ·by_cases h6 : e.f0 = 6 <;> simp [h5, h6])
 have loop : ∀ (r pre : List S24), e.f2 = pre ++ r → ∀ a b, Ev (fun k => semigroupref04_Nullable.l0 k a b e.f2 (e.f2.length : Int) (pre.length : Int) e.f0 e.f1 e.f2) (if e.f0 = 2 ∨ e.f0 = 7 then true else if e.f0 = 4 then (b || nulOne r) else if e.f0 = 5 ∨ e.f0 = 6 then (a && nulAll r) else if e.f0 = 8 then !(b || nulOne r) else false) := by
  intro r
  induction r with
  | nil =>
   intro pre hp a b
   refine Ev.to (Ev.step (f := fun k => if e.f0 = 2 then semigroupref04_Nullable.j1 k a b e.f0 (e.f0 == 2) else semigroupref04_Nullable.j1 k a b e.f0 (e.f0 == 7)) (fun k => by simp only [semigroupref04_Nullable.l0]; rw [hp, if_neg (not_lt_end pre)]) (Ev.if (fun _ => j1 _ _ _) (fun _ => j1 _ _ _))) ?_
   by_cases h2 : e.f0 = 2
   ·simp [h2]
   ·by_cases h7 : e.f0 = 7
    ·simp [h7]
    ·simp [h2, h7, nulOne, nulAll]
  | cons x r ihr =>
   intro pre hp a b
   have hx : x ∈ e.f2 := by rw [hp]; simp
   have nx := ihr (pre ++ [x]) (by rw [hp]; exact shift_mid pre x r)
   refine Ev.to (Ev.step (f := fun k => (semigroupref04_Nullable.f k x.f0 x.f1 x.f2).bind fun t => if a = true then (if b = true then semigroupref04_Nullable.l0 k t true e.f2 (e.f2.length : Int) ((pre ++ [x]).length : Int) e.f0 e.f1 e.f2 else semigroupref04_Nullable.l0 k t t e.f2 (e.f2.length : Int) ((pre ++ [x]).length : Int) e.f0 e.f1 e.f2) else (if b = true then semigroupref04_Nullable.l0 k false true e.f2 (e.f2.length : Int) ((pre ++ [x]).length : Int) e.f0 e.f1 e.f2 else semigroupref04_Nullable.l0 k false t e.f2 (e.f2.length : Int) ((pre ++ [x]).length : Int) e.f0 e.f1 e.f2)) (fun k => ?_) (Ev.bind (ih x hx (hw.kid hx)) (Ev.if (fun _ => Ev.if (fun _ => nx _ _) (fun _ => nx _ _)) (fun _ => Ev.if (fun _ => nx _ _) (fun _ => nx _ _))))) ?_
   ·simp only [semigroupref04_Nullable.l0]
    rw [← next_mid (r := r) (x := x) (by rw [← hp]; exact hw.len), hp, if_pos (lt_mid pre x r), if_pos (ge0 _), if_pos (lt_mid pre x r), rd_mid]
   ·rw [nulOne, nulAll]
    cases a <;> cases b <;> simp
 refine Ev.to (Ev.step (f := fun k => semigroupref04_Nullable.l0 k true false e.f2 (e.f2.length : Int) 0 e.f0 e.f1 e.f2) (fun k => by simp only [semigroupref04_Nullable.f]) (loop e.f2 [] rfl true false)) ?_
 rw [nul_mk]; simp
end Go.Proofs.Ytjofkebiacaciaa.T04
end
section
namespace Go.Proofs.Ytjofkebiacaciaa.Pure
open Go Go.RowKit Go.Proofs.Ytjofkebiacaciaa.PAll Go.Proofs.YtjofkebiacaciaaW.PrintWords Go.Proofs.YtjofkebiacaciaaW.PrintLast Go.Proofs.Ytjofkebiacaciaa.AllRead24 Go.Proofs.Ytjofkebiacaciaa.T04
set_option linter.all false
theorem ExprMeasures (e : S24) (he : WF e) : ∃ k, semigrouplaw04_ExprMeasures.f k e.f0 e.f1 e.f2 = some true := by
 have aw : Ev (fun k => (semigrouplaw04_awake.f k).bind fun z => some z) true := Ev.bind (f := fun _ z => some z) awake_ev (Ev.now _)
 have v := valid_prog e he
 refine Ev.rounds (g := fun k => semigrouplaw04_ExprMeasures.f k e.f0 e.f1 e.f2) ?_
 refine Ev.congr (fun k => by simp only [semigrouplaw04_ExprMeasures.f]; rfl) ?_
 refine Ev.bind (valid_ref e he) ?_
 by_cases hg : Vld e
 ·rw [decide_eq_true hg] at v ⊢
  have hs := hg.1.1
  obtain ⟨n, d, m1, m2, m3⟩ := measure_ev e he
  have hn : (n : Int) = size e := by omega
  have hd := m3 hs
  obtain ⟨s1, s2⟩ := star_ev e he hs
  have c1 : Ev (fun k => expr_Size.f k e.f0 e.f1 e.f2) (size e : Int) := Ev.congr (f := fun k => (expr_valid.f k e.f0 e.f1 e.f2).bind fun t => if t = true then ((expr_size.f k e.f0 e.f1 e.f2).bind fun u => some u) else some 0) (fun k => by simp only [expr_Size.f]) (Ev.bind v (by simp only [if_true]; exact Ev.bind (f := fun _ u => some u) (size_ev e he hs) (Ev.now _)))
  have c2 : Ev (fun k => semigroupref04_Size.f k e.f0 e.f1 e.f2) (size e : Int) := Ev.congr (f := fun k => (semigroupref04_measure.f k e.f0 e.f1 e.f2 400).bind fun t => some t.1) (fun k => by simp only [semigroupref04_Size.f]) (Ev.bind (f := fun _ t => some t.1) m1 (Ev.to (Ev.now _) hn))
  have c3 : Ev (fun k => expr_Depth.f k e.f0 e.f1 e.f2) (depth e : Int) := Ev.congr (f := fun k => (expr_valid.f k e.f0 e.f1 e.f2).bind fun t => if t = true then ((expr_depth.f k e.f0 e.f1 e.f2).bind fun u => some u) else some 0) (fun k => by simp only [expr_Depth.f]) (Ev.bind v (by simp only [if_true]; exact Ev.bind (f := fun _ u => some u) (depth_ev e he hs) (Ev.now _)))
  have c4 : Ev (fun k => semigroupref04_Depth.f k e.f0 e.f1 e.f2) (depth e : Int) := Ev.congr (f := fun k => (semigroupref04_measure.f k e.f0 e.f1 e.f2 400).bind fun t => some t.2) (fun k => by simp only [semigroupref04_Depth.f]) (Ev.bind (f := fun _ t => some t.2) m1 (Ev.to (Ev.now _) hd))
  have c5 : Ev (fun k => expr_StarHeight.f k e.f0 e.f1 e.f2) (star e : Int) := Ev.congr (f := fun k => (expr_valid.f k e.f0 e.f1 e.f2).bind fun t => if t = true then ((expr_height.f k e.f0 e.f1 e.f2).bind fun u => some u) else some 0) (fun k => by simp only [expr_StarHeight.f]) (Ev.bind v (by simp only [if_true]; exact Ev.bind (f := fun _ u => some u) s1 (Ev.now _)))
  have c6 : Ev (fun k => expr_StarFree.f k e.f0 e.f1 e.f2) ((star e : Int) == 0) := Ev.congr (f := fun k => (expr_valid.f k e.f0 e.f1 e.f2).bind fun t => if t = true then ((expr_height.f k e.f0 e.f1 e.f2).bind fun u => some (u == 0)) else some false) (fun k => by simp only [expr_StarFree.f]) (Ev.bind v (by simp only [if_true]; exact Ev.bind (f := fun _ u => some (u == 0)) s1 (Ev.now _)))
  have c7 : Ev (fun k => expr_Nullable.f k e.f0 e.f1 e.f2) (nul e) := Ev.congr (f := fun k => (expr_valid.f k e.f0 e.f1 e.f2).bind fun t => if t = true then ((simplify_Nullable.f k e.f0 e.f1 e.f2).bind fun u => some u) else some false) (fun k => by simp only [expr_Nullable.f]) (Ev.bind v (by simp only [if_true]; exact Ev.bind (f := fun _ u => some u) (nul_prog e he hg.2) (Ev.now _)))
  have q : (((star e : Int) == 0) == (!decide (star e ≠ 0))) = true := by by_cases h : star e = 0 <;> simp [h]
  simp only [if_true]
  refine Ev.bind c1 (Ev.bind c2 ?_)
  simp only [if_true]
  refine Ev.bind c3 (Ev.bind c4 ?_)
  simp only [if_true]
  refine Ev.bind c5 (Ev.bind s2 ?_)
  simp only [if_true]
  refine Ev.bind c6 (Ev.bind (uses_ev e he) ?_)
  simp only [q, if_true]
  refine Ev.bind c7 (Ev.bind (nul_ref e he) ?_)
  simp only [beq_self_eq_true, if_true]
  exact aw
 ·rw [decide_eq_false hg] at v ⊢
  have c1 : Ev (fun k => expr_Size.f k e.f0 e.f1 e.f2) 0 := Ev.congr (f := fun k => (expr_valid.f k e.f0 e.f1 e.f2).bind fun t => if t = true then ((expr_size.f k e.f0 e.f1 e.f2).bind fun u => some u) else some 0) (fun k => by simp only [expr_Size.f]) (Ev.bind v (by simp only [if_neg (show ¬ (false = true) by decide)]; exact Ev.now _))
  have c3 : Ev (fun k => expr_Depth.f k e.f0 e.f1 e.f2) 0 := Ev.congr (f := fun k => (expr_valid.f k e.f0 e.f1 e.f2).bind fun t => if t = true then ((expr_depth.f k e.f0 e.f1 e.f2).bind fun u => some u) else some 0) (fun k => by simp only [expr_Depth.f]) (Ev.bind v (by simp only [if_neg (show ¬ (false = true) by decide)]; exact Ev.now _))
  have c5 : Ev (fun k => expr_StarHeight.f k e.f0 e.f1 e.f2) 0 := Ev.congr (f := fun k => (expr_valid.f k e.f0 e.f1 e.f2).bind fun t => if t = true then ((expr_height.f k e.f0 e.f1 e.f2).bind fun u => some u) else some 0) (fun k => by simp only [expr_StarHeight.f]) (Ev.bind v (by simp only [if_neg (show ¬ (false = true) by decide)]; exact Ev.now _))
  have c6 : Ev (fun k => expr_StarFree.f k e.f0 e.f1 e.f2) false := Ev.congr (f := fun k => (expr_valid.f k e.f0 e.f1 e.f2).bind fun t => if t = true then ((expr_height.f k e.f0 e.f1 e.f2).bind fun u => some (u == 0)) else some false) (fun k => by simp only [expr_StarFree.f]) (Ev.bind v (by simp only [if_neg (show ¬ (false = true) by decide)]; exact Ev.now _))
  have c7 : Ev (fun k => expr_Nullable.f k e.f0 e.f1 e.f2) false := Ev.congr (f := fun k => (expr_valid.f k e.f0 e.f1 e.f2).bind fun t => if t = true then ((simplify_Nullable.f k e.f0 e.f1 e.f2).bind fun u => some u) else some false) (fun k => by simp only [expr_Nullable.f]) (Ev.bind v (by simp only [if_neg (show ¬ (false = true) by decide)]; exact Ev.now _))
  simp only [if_neg (show ¬ (false = true) by decide)]
  refine Ev.bind c1 ?_
  simp only [if_true]
  refine Ev.bind c3 ?_
  simp only [if_true]
  refine Ev.bind c5 ?_
  simp only [if_true]
  refine Ev.bind c6 ?_
  simp only [if_neg (show ¬ (false = true) by decide)]
  refine Ev.bind c7 ?_
  simp only [if_neg (show ¬ (false = true) by decide)]
  exact aw
end Go.Proofs.Ytjofkebiacaciaa.Pure
end
