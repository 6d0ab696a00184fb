/- The functions that the laws of this seat reach, a proof for each that the Go code comes to them, and the plain laws; merged. Conditions: none beside those of the given statements. -/
import Derived.Test.YtjofkebiacaciaaMExprBoolean3
import Derived.Test.YtjofkebiacaciaaMExprBoolean1
import Derived.Test.YtjofkebiacaciaaMc16
section
namespace Go.Proofs.Ytjofkebiacaciaa.T04
open Go Go.RowKit Go.Proofs.Ytjofkebiacaciaa.PAll Go.Proofs.YtjofkebiacaciaaW.PrintWords Go.Proofs.YtjofkebiacaciaaW.PrintLast Go.Proofs.YtjofkebiacaciaaW.PrintMore Go.Proofs.Ytjofkebiacaciaa.AllRead24 Go.Proofs.Ytjofkebiacaciaa.Bit64
set_option linter.all false
theorem cat_loop {n : Nat} (hn : n ≤ 4096) (w : ByteArray) {ws : List Int} (hw : ws.length = n) (k0 : S24) (rest : List S24) (hl : rest.length ≤ maxLen) (ih : ∀ x, x ∈ rest → ∃ t, Ev (fun k => expr_match.f k x.f0 x.f1 x.f2 w) t ∧ Sp n t (SpL ws (Lang x))) : ∀ (r pre : List S24) (m : List (List Int)), rest = pre ++ r → Sp n m (SpL ws (langCat (k0 :: pre))) → ∃ m', Ev (fun k => expr_match.l5 k w m rest (rest.length : Int) (pre.length : Int)) m' ∧ Sp n m' (SpL ws (langCat (k0 :: rest))) := by
 intro r
 induction r with
 | nil =>
  intro pre m hp hm
  refine ⟨m, Ev.step (f := fun _ => some m) (fun k => by simp only [expr_match.l5]; rw [hp, if_neg (not_lt_end pre)]) (Ev.now _), ?_⟩
  rw [hp, List.append_nil]; exact hm
 | cons x r ihr =>
  intro pre m hp hm
  obtain ⟨t, ht, hs⟩ := ih x (by rw [hp]; simp)
  obtain ⟨m1, g1, g2⟩ := then_ev hn hm hs
  have g1' : Sp n m1 (SpL ws (langCat (k0 :: (pre ++ [x])))) := g1.congr (fun a ha b => by
   rw [← List.cons_append]
   unfold SpL
   constructor
   ·rintro ⟨c, h1, h2, ⟨h3, h4, h5⟩, h6, h7, h8⟩
    exact ⟨by omega, h7, (langCat_snoc _ _ _).mpr ((sub_app (by omega) h7 _ _).mpr ⟨c, h3, h6, h5, h8⟩)⟩
   ·rintro ⟨h1, h2, h3⟩
    obtain ⟨c, q1, q2, q3, q4⟩ := (sub_app h1 h2 _ _).mp ((langCat_snoc _ _ _).mp h3)
    exact ⟨c, q1, by omega, ⟨q1, by omega, q3⟩, q2, h2, q4⟩)
  obtain ⟨m', h1, h2⟩ := ihr (pre ++ [x]) m1 (by rw [hp]; exact shift_mid pre x r) g1'
  refine ⟨m', Ev.step (f := fun k => (expr_match.f k x.f0 x.f1 x.f2 w).bind fun t => (expr_spans_then.f k m t).bind fun m1 => expr_match.l5 k w m1 rest (rest.length : Int) ((pre ++ [x]).length : Int)) (fun k => ?_) (Ev.bind (f := fun k t => (expr_spans_then.f k m t).bind fun m1 => expr_match.l5 k w m1 rest (rest.length : Int) ((pre ++ [x]).length : Int)) ht (Ev.bind (f := fun k m1 => expr_match.l5 k w m1 rest (rest.length : Int) ((pre ++ [x]).length : Int)) g2 h1)), h2⟩
  simp only [expr_match.l5]
  rw [← next_mid (r := r) (x := x) (by rw [← hp]; exact hl), hp, if_pos (lt_mid pre x r), if_pos (ge0 _), if_pos (lt_mid pre x r), rd_mid]
theorem star_l8 (x5 : Int) (x16 : List (List Int)) {i j : Nat} (hij : j ≠ i) (L : Int) : ∀ (sa pa pb sb : List Int) (m : List (List Int)), i < m.length → j < m.length → rd_L4 m i = pa ++ sa → rd_L4 m j = pb ++ sb → pa.length = pb.length → sa.length = sb.length → (pa ++ sa).length ≤ 4096 → L = ((pa ++ sa).length : Int) →
  ∀ R, Ev (fun k => expr_match.l7 k x5 (m.set i (pa ++ both (Go.bits .or .u64) sa sb)) x16 i (wrap64 ((j : Int) + 1))) R → Ev (fun k => expr_match.l8 k x5 m x16 i j L (pa.length : Int)) R := by
 intro sa
 induction sa with
 | nil =>
  intro pa pb sb m hi hj ha hb hl hs h4 hL R hR
  have : sb = [] := List.length_eq_zero_iff.mp hs.symm
  subst this
  rw [show pa ++ both (Go.bits .or .u64) [] [] = rd_L4 m i from by rw [ha]; rfl, set_self m hi] at hR
  refine Ev.step (fun k => ?_) hR
  simp only [expr_match.l8]
  rw [if_neg (by rw [hL]; simp)]
 | cons x sa ih =>
  intro pa pb sb m hi hj ha hb hl hs h4 hL R hR
  cases sb with
  | nil => cases hs
  | cons y sb =>
  have h4' : pa.length + sa.length + 1 ≤ 4096 := by simp at h4; omega
  have hb1 : rd_L4 m j = (pb ++ [y]) ++ sb := by rw [hb]; simp
  have e1 : rd (rd_L4 m i) (pa.length : Int) = x := by rw [ha, rd_at]
  have e2 : rd (rd_L4 m j) (pa.length : Int) = y := by rw [hb, hl, rd_at]
  have e3 : ∀ z, (rd_L4 m i).set pa.length z = (pa ++ [z]) ++ sa := fun z => by rw [ha, set_at]; simp
  have key := ih (pa ++ [Go.bits .or .u64 x y]) (pb ++ [y]) sb (m.set i ((pa ++ [Go.bits .or .u64 x y]) ++ sa)) (by rw [List.length_set]; exact hi) (by rw [List.length_set]; exact hj) (rdL_set _ _ hi) (by rw [rdL_set_ne _ _ hi hij]; exact hb1) (by simp [hl]) (by simpa using hs) (by simp; omega) (by rw [hL]; simp) R (by
   rw [List.set_set]
   have : (pa ++ [Go.bits .or .u64 x y]) ++ both (Go.bits .or .u64) sa sb = pa ++ both (Go.bits .or .u64) (x :: sa) (y :: sb) := by simp [both]
   rw [this]; exact hR)
  refine Ev.step (f := fun k => expr_match.l8 k x5 (m.set i ((pa ++ [Go.bits .or .u64 x y]) ++ sa)) x16 i j L ((pa ++ [Go.bits .or .u64 x y]).length : Int)) (fun k => ?_) key
  have q1 : (pa.length : Int) < ((rd_L4 m i).length : Int) := by rw [ha]; simp; omega
  have q2 : (pa.length : Int) < ((rd_L4 m j).length : Int) := by rw [hb]; simp; omega
  have q3 : wrap64 ((pa.length : Int) + 1) = ((pa ++ [Go.bits .or .u64 x y]).length : Int) := by rw [up1 (by omega)]; simp
  simp only [expr_match.l8]
  rw [if_pos (by rw [hL]; simp; omega), q3, e1, e2, if_pos (by omega), if_pos (by omega), if_pos (by omega), if_pos q1, if_pos (by omega), if_pos (by omega), if_pos q2, Int.toNat_natCast, Int.toNat_natCast, e3]
theorem star_l7 {n : Nat} (hn : n ≤ 4096) {s : List (List Int)} {S : Nat → Nat → Prop} (hs : Sp n s S) {i : Nat} (hi : i ≤ n) : ∀ (d j : Nat) (m : List (List Int)) (G : Nat → Nat → Prop), j + d = n + 1 → i < j → Sp n m G →
  ∃ m', Sp n m' (fun a b => if a = i then G i b ∨ ∃ c, j ≤ c ∧ c ≤ n ∧ S i c ∧ G c b else G a b) ∧ ∀ R, Ev (fun k => expr_match.l6 k n m' s (wrap64 ((i : Int) - 1))) R → Ev (fun k => expr_match.l7 k n m s i j) R := by
 intro d
 induction d with
 | zero =>
  intro j m G hj hij hm
  refine ⟨m, hm.congr (fun a ha b => ?_), fun R hR => Ev.step (fun k => ?_) hR⟩
  ·by_cases c : a = i
   ·subst c; rw [if_pos rfl]; exact ⟨Or.inl, fun h => h.elim id (fun ⟨c, h1, h2, _⟩ => by omega)⟩
   ·rw [if_neg c]
  ·simp only [expr_match.l7]
   rw [if_neg (by omega)]
 | succ d ih =>
  intro j m G hj hij hm
  obtain ⟨bv, hb, hbi⟩ := has_eq (by omega) hs hi (show j ≤ n by omega)
  have hstep : ∀ k, expr_match.l7 (k + 1) n m s i j = (if bv = true then (expr_match.l8 k n m s i j ((rd_L4 m j).length : Int) 0) else (expr_match.l7 k n m s i ((j + 1 : Nat) : Int))) := by
   intro k
   simp only [expr_match.l7]
   rw [if_pos (by omega), hb, Option.bind_some, up1 (by omega)]
   by_cases c : bv = true
   ·rw [if_pos c, if_pos c, if_pos (by omega), if_pos (by rw [hm.len]; omega)]
   ·rw [if_neg c, if_neg c]
  cases bv with
  | false =>
   have hf : ¬ S i j := fun h => by have := hbi.mpr h; cases this
   obtain ⟨m', h1, h2⟩ := ih (j + 1) m G (by omega) (by omega) hm
   refine ⟨m', h1.congr (fun a ha b => ?_), fun R hR => Ev.step (fun k => hstep k) (by simpa using h2 R hR)⟩
   by_cases c : a = i
   ·rw [if_pos c, if_pos c]
    refine or_congr Iff.rfl ⟨fun ⟨c, h1, h2⟩ => ⟨c, by omega, h2⟩, fun ⟨c, q1, q2⟩ => ⟨c, ?_, q2⟩⟩
    by_cases e : c = j
    ·exact absurd (e ▸ q2.2.1) hf
    ·omega
   ·rw [if_neg c, if_neg c]
  | true =>
   have hf : S i j := hbi.mp rfl
   have ra := hm.row i hi
   have rb := hm.row j (by omega)
   obtain ⟨m', h1, h2⟩ := ih (j + 1) (m.set i (both (Go.bits .or .u64) (rd_L4 m i) (rd_L4 m j))) _ (by omega) (by omega) (hm.set hi (ra.or rb))
   refine ⟨m', h1.congr (fun a ha b => ?_), fun R hR => Ev.step (fun k => hstep k) ?_⟩
   ·by_cases c : a = i
    ·subst c
     simp only [if_true]
     refine ⟨fun h => ?_, fun h => ?_⟩
     ·rcases h with (h | h) | ⟨c, h1, h2, h3, h4⟩
      ·exact .inl h
      ·exact .inr ⟨j, by omega, by omega, hf, h⟩
      ·rw [if_neg (by omega)] at h4
       exact .inr ⟨c, by omega, h2, h3, h4⟩
     ·rcases h with h | ⟨c, h1, h2, h3, h4⟩
      ·exact .inl (.inl h)
      ·by_cases e : c = j
       ·subst e; exact .inl (.inr h4)
       ·exact .inr ⟨c, by omega, h2, h3, by rw [if_neg (by omega)]; exact h4⟩
    ·rw [if_neg c, if_neg c, if_neg c]
   ·simp only [if_true]
    exact star_l8 n s (i := i) (j := j) (by omega) _ (rd_L4 m i) [] [] (rd_L4 m j) m (by rw [hm.len]; omega) (by rw [hm.len]; omega) rfl rfl rfl (by rw [ra.len, rb.len]) (by have := ra.len; have := Nat.div_le_self n 64; simp; omega) (by rw [rb.len, List.nil_append, ra.len]) R (by rw [up1 (by omega)]; simpa using h2 R hR)
theorem star_l6 {n : Nat} (hn : n ≤ 4096) {ws : List Int} (hw : ws.length = n) {L : List Int → Prop} {s : List (List Int)} (hs : Sp n s (SpL ws L)) : ∀ (i : Nat) (m : List (List Int)), i ≤ n + 1 → Sp n m (fun a b => i ≤ a ∧ SpL ws (Star L) a b) → ∃ m', Ev (fun k => expr_match.l6 k n m s ((i : Int) - 1)) m' ∧ Sp n m' (SpL ws (Star L)) := by
 intro i
 induction i with
 | zero =>
  intro m hi hm
  exact ⟨m, Ev.step (f := fun _ => some m) (fun k => by simp only [expr_match.l6]; rw [if_neg (by omega)]) (Ev.now _), hm.congr (fun a ha b => ⟨fun h => h.2, fun h => ⟨by omega, h⟩⟩)⟩
 | succ i ih =>
  intro m hi hm
  have hr := hm.row i (by omega)
  obtain ⟨m1, g1, g2⟩ := star_l7 hn hs (show i ≤ n by omega) (n - i) (i + 1) _ _ (by omega) (by omega) (hm.add (i := i) (j := i) (by omega) (by omega))
  obtain ⟨m', h1, h2⟩ := ih m1 (by omega) (g1.congr (fun a ha b => by
   by_cases c : a = i
   ·subst c
    rw [if_pos rfl]
    constructor
    ·rintro ((⟨h, _⟩ | ⟨_, rfl⟩) | ⟨c, h1, h2, ⟨h3, h4, h5⟩, (⟨h6, h7, h8, h9⟩ | ⟨h6, _⟩)⟩)
     ·omega
     ·exact ⟨Nat.le_refl _, Nat.le_refl _, by omega, by rw [(sub_nil (Nat.le_refl _) (by omega)).mpr rfl]; exact .nil⟩
     ·refine ⟨Nat.le_refl _, by omega, h8, (Star_iff _ _).mpr (.inr ?_)⟩
      exact ⟨_, _, sub_cut ws h3 h7, fun e => by have := (sub_nil h3 h4).mp e; omega, h5, h9⟩
     ·omega
    ·rintro ⟨_, h1, h2, h3⟩
     rcases (Star_iff _ _).mp h3 with h | ⟨x, y, h4, h5, h6, h7⟩
     ·exact .inl (.inr ⟨rfl, ((sub_nil h1 h2).mp h).symm⟩)
     ·obtain ⟨c, q1, q2, q3, q4⟩ := (sub_app h1 h2 (fun v => v ≠ [] ∧ L v) (Star L)).mp ⟨x, y, h4, ⟨h5, h6⟩, h7⟩
      have : c ≠ a := fun e => q3.1 ((sub_nil q1 (by omega)).mpr e.symm)
      exact .inr ⟨c, by omega, by omega, ⟨q1, by omega, q3.2⟩, .inl ⟨by omega, q2, h2, q4⟩⟩
   ·rw [if_neg c]
    constructor
    ·rintro (⟨h1, h2⟩ | ⟨h1, _⟩)
     ·exact ⟨by omega, h2⟩
     ·omega
    ·rintro ⟨h1, h2⟩; exact .inl ⟨by omega, h2⟩))
  refine ⟨m', Ev.step (fun k => ?_) (g2 m' ?_), h2⟩
  ·simp only [expr_match.l6]
   have e : (((i + 1 : Nat) : Int) - 1) = (i : Int) := by omega
   rw [e, if_pos (by omega), if_pos (by omega), if_pos (by rw [hm.len]; omega), i_div (by omega), i_mod, if_pos (by omega), if_pos (by rw [hr.len]; have := div64 (j := i) (n := n) (by omega); omega), if_pos (by omega), Int.toNat_natCast, Int.toNat_natCast, up1 (by omega)]
  ·rw [w64 (by omega) (by omega)]; exact h1
theorem not_l10 {n : Nat} (hn : n ≤ 4096) {s : List (List Int)} {S : Nat → Nat → Prop} (hs : Sp n s S) {i : Nat} (hi : i ≤ n) : ∀ (d j : Nat) (m : List (List Int)) (G : Nat → Nat → Prop), j + d = n + 1 → Sp n m G →
  ∃ m', Sp n m' (fun a b => G a b ∨ (a = i ∧ j ≤ b ∧ b ≤ n ∧ ¬ S i b)) ∧ ∀ R, Ev (fun k => expr_match.l9 k n m' s ((i + 1 : Nat) : Int)) R → Ev (fun k => expr_match.l10 k n m s i j) R := by
 intro d
 induction d with
 | zero =>
  intro j m G hj hm
  refine ⟨m, hm.congr (fun a ha b => ⟨Or.inl, fun h => h.elim id (fun h => by omega)⟩), fun R hR => Ev.step (fun k => ?_) hR⟩
  simp only [expr_match.l10]
  rw [if_neg (by omega), up1 (by omega)]
 | succ d ih =>
  intro j m G hj hm
  obtain ⟨bv, hb, hbi⟩ := has_eq (by omega) hs hi (show j ≤ n by omega)
  have hr := hm.row i hi
  cases bv with
  | true =>
   obtain ⟨m', h1, h2⟩ := ih (j + 1) m G (by omega) hm
   refine ⟨m', h1.congr (fun a ha b => or_congr Iff.rfl ⟨fun ⟨h1, h2, h3⟩ => ⟨h1, by omega, h3⟩, fun ⟨h1, h2, h3, h4⟩ => ⟨h1, ?_, h3, h4⟩⟩), fun R hR => Ev.step (fun k => ?_) (h2 R hR)⟩
   ·by_cases e : b = j
    ·exact absurd (hbi.mp rfl) (e ▸ h4)
    ·omega
   ·simp only [expr_match.l10]
    rw [if_pos (by omega), hb, Option.bind_some, if_pos rfl, up1 (by omega)]
  | false =>
   have hf : ¬ S i j := fun h => by have := hbi.mpr h; cases this
   obtain ⟨m', h1, h2⟩ := ih (j + 1) _ _ (by omega) (hm.add hi (show j ≤ n by omega))
   refine ⟨m', h1.congr (fun a ha b => ?_), fun R hR => Ev.step (fun k => ?_) (h2 R hR)⟩
   ·constructor
    ·rintro ((h | ⟨rfl, rfl⟩) | ⟨h1, h2, h3⟩)
     ·exact .inl h
     ·exact .inr ⟨rfl, Nat.le_refl _, by omega, hf⟩
     ·exact .inr ⟨h1, by omega, h3⟩
    ·rintro (h | ⟨h1, h2, h3, h4⟩)
     ·exact .inl (.inl h)
     ·by_cases e : b = j
      ·exact .inl (.inr ⟨h1, e⟩)
      ·exact .inr ⟨h1, by omega, h3, h4⟩
   ·simp only [expr_match.l10]
    rw [if_pos (by omega), hb, Option.bind_some, if_neg (by simp), if_pos (by omega), if_pos (by rw [hm.len]; omega), i_div (by omega), i_mod, if_pos (by omega), if_pos (by rw [hr.len]; have := div64 (j := j) (n := n) (by omega); omega), if_pos (by omega), Int.toNat_natCast, Int.toNat_natCast, up1 (by omega)]
theorem not_l9 {n : Nat} (hn : n ≤ 4096) {s : List (List Int)} {S : Nat → Nat → Prop} (hs : Sp n s S) : ∀ (d i : Nat) (m : List (List Int)), i + d = n + 1 → Sp n m (fun a b => a < i ∧ a ≤ b ∧ b ≤ n ∧ ¬ S a b) → ∃ m', Ev (fun k => expr_match.l9 k n m s i) m' ∧ Sp n m' (fun a b => a ≤ b ∧ b ≤ n ∧ ¬ S a b) := by
 intro d
 induction d with
 | zero =>
  intro i m hi hm
  exact ⟨m, Ev.step (f := fun _ => some m) (fun k => by simp only [expr_match.l9]; rw [if_neg (by omega)]) (Ev.now _), hm.congr (fun a ha b => ⟨fun h => h.2, fun h => ⟨by omega, h⟩⟩)⟩
 | succ d ih =>
  intro i m hi hm
  obtain ⟨m1, g1, g2⟩ := not_l10 hn hs (show i ≤ n by omega) (n + 1 - i) i m _ (by omega) hm
  obtain ⟨m', h1, h2⟩ := ih (i + 1) m1 (by omega) (g1.congr (fun a ha b => by
   constructor
   ·rintro (⟨h1, h2⟩ | ⟨rfl, h2, h3⟩)
    ·exact ⟨by omega, h2⟩
    ·exact ⟨by omega, h2, h3⟩
   ·rintro ⟨h1, h2, h3⟩
    by_cases e : a = i
    ·subst e; exact .inr ⟨rfl, h2, h3⟩
    ·exact .inl ⟨by omega, h2, h3⟩))
  exact ⟨m', Ev.step (fun k => by simp only [expr_match.l9]; rw [if_pos (by omega)]) (g2 m' h1), h2⟩
end Go.Proofs.Ytjofkebiacaciaa.T04
end
section
namespace Go.Proofs.Ytjofkebiacaciaa.T04
open Go Go.RowKit Go.Proofs.Ytjofkebiacaciaa.PAll Go.Proofs.YtjofkebiacaciaaW.PrintWords Go.Proofs.YtjofkebiacaciaaW.PrintLast Go.Proofs.YtjofkebiacaciaaW.PrintMore Go.Proofs.Ytjofkebiacaciaa.AllRead24 Go.Proofs.Ytjofkebiacaciaa.Bit64
set_option linter.all false
theorem kid_shp2 {L : Int} {e : S24} (h : shp L e = true) {x : S24} (hx : x ∈ e.f2) : shp L x = true := by
 rw [shp_mk] at h
 simp at h
 exact shps_mem h.2.2 hx
theorem not_one2 {L : Int} {e : S24} (h : shp L e = true) (h8 : e.f0 = 7 ∨ e.f0 = 8) : ∃ x, e.f2 = [x] := by
 rw [shp_mk] at h
 simp at h
 have := h.1
 unfold opKids at this
 rw [if_neg (by omega), if_pos h8] at this
 have := of_decide_eq_true this
 exact List.length_eq_one_iff.mp this
def soFar (o : Int) (l : List S24) (u : List Int) : Prop := l ≠ [] ∧ (if o = 4 then langOne l u else langAll l u)
theorem soFar_snoc (o : Int) (pre : List S24) (x : S24) (ws : List Int) (a b : Nat) : mixP (pre.length : Int) o (SpL ws (soFar o pre) a b) (SpL ws (Lang x) a b) ↔ SpL ws (soFar o (pre ++ [x])) a b := by
 unfold mixP SpL soFar
 by_cases h : pre = []
 ·subst h
  simp only [show ((([] : List S24).length : Nat) : Int) = 0 from rfl, if_true]
  by_cases h4 : o = 4 <;> simp [h4, langOne, langAll]
 ·rw [if_neg (by simpa using h)]
  have hn : pre ++ [x] ≠ [] := by simp
  by_cases h4 : o = 4
  ·simp only [if_pos h4, langOne_iff]
   constructor
   ·rintro (⟨h1, h2, _, y, h3, h5⟩ | ⟨h1, h2, h3⟩)
    ·exact ⟨h1, h2, hn, y, by simp [h3], h5⟩
    ·exact ⟨h1, h2, hn, x, by simp, h3⟩
   ·rintro ⟨h1, h2, _, y, h3, h5⟩
    rcases List.mem_append.mp h3 with h3 | h3
    ·exact .inl ⟨h1, h2, h, y, h3, h5⟩
    ·exact .inr ⟨h1, h2, by rw [List.mem_singleton.mp h3] at h5; exact h5⟩
  ·simp only [if_neg h4, langAll_iff]
   constructor
   ·rintro ⟨⟨h1, h2, _, h3⟩, _, _, h5⟩
    refine ⟨h1, h2, hn, fun y hy => ?_⟩
    rcases List.mem_append.mp hy with hy | hy
    ·exact h3 y hy
    ·rw [List.mem_singleton.mp hy]; exact h5
   ·rintro ⟨h1, h2, _, h3⟩
    exact ⟨⟨h1, h2, h, fun y hy => h3 y (by simp [hy])⟩, h1, h2, h3 x (by simp)⟩
theorem mix_l2 {n : Nat} (hn : n ≤ 4096) (w : ByteArray) {ws : List Int} (e : S24) (hl : e.f2.length ≤ maxLen) (ih : ∀ x, x ∈ e.f2 → ∃ t, Ev (fun k => expr_match.f k x.f0 x.f1 x.f2 w) t ∧ Sp n t (SpL ws (Lang x))) : ∀ (r pre : List S24) (m : List (List Int)), e.f2 = pre ++ r → Sp n m (SpL ws (soFar e.f0 pre)) → ∃ m', Ev (fun k => expr_match.l2 k w m e.f2 (e.f2.length : Int) (pre.length : Int) e.f0 e.f1 e.f2) m' ∧ Sp n m' (SpL ws (soFar e.f0 e.f2)) := by
 intro r
 induction r with
 | nil =>
  intro pre m hp hm
  refine ⟨m, Ev.step (f := fun _ => some m) (fun k => by simp only [expr_match.l2]; rw [hp, if_neg (not_lt_end pre)]) (Ev.now _), ?_⟩
  rw [hp, List.append_nil]; exact hm
 | cons x r ihr =>
  intro pre m hp hm
  obtain ⟨t, ht, hs⟩ := ih x (by rw [hp]; simp)
  obtain ⟨m1, g1, g2⟩ := mix_l3 hn w hs (pre.length : Int) (e.f2.length : Int) (pre.length : Int) e.f0 e.f1 e.f2 e.f2 (n + 1) 0 m _ (by omega) hm
  obtain ⟨m', h1, h2⟩ := ihr (pre ++ [x]) m1 (by rw [hp]; exact shift_mid pre x r) (g1.congr (fun a ha b => by rw [if_pos (by omega)]; exact soFar_snoc e.f0 pre x ws a b))
  have hnx : wrap64 ((pre.length : Int) + 1) = ((pre ++ [x]).length : Int) := next_mid (r := r) (by rw [← hp]; exact hl)
  refine ⟨m', Ev.step (f := fun k => (expr_match.f k x.f0 x.f1 x.f2 w).bind fun t => expr_match.l3 k w m (pre.length : Int) t e.f2 (e.f2.length : Int) (pre.length : Int) (m.length : Int) 0 e.f0 e.f1 e.f2) (fun k => ?_) (Ev.bind (f := fun k t => expr_match.l3 k w m (pre.length : Int) t e.f2 (e.f2.length : Int) (pre.length : Int) (m.length : Int) 0 e.f0 e.f1 e.f2) ht (by rw [hm.len]; exact g2 m' (by rw [hnx]; exact h1))), h2⟩
  simp only [expr_match.l2]
  rw [hp, if_pos (lt_mid pre x r), if_pos (ge0 _), if_pos (lt_mid pre x r), rd_mid]
theorem many_of {e : S24} (h : shp 6 e = true) (h4 : e.f0 = 4 ∨ e.f0 = 5 ∨ e.f0 = 6) : 2 ≤ e.f2.length := by
 rw [shp_mk] at h
 simp at h
 have := h.1
 unfold opKids at this
 rw [if_neg (by omega), if_neg (by omega), if_pos h4] at this
 exact of_decide_eq_true this
theorem match_ev (w : ByteArray) (hn : w.size ≤ 4096) (e : S24) : WF e → shp 6 e = true → ∃ m, Ev (fun k => expr_match.f k e.f0 e.f1 e.f2 w) m ∧ Sp w.size m (SpL (lets w) (Lang e)) := by
 induction e using ind with
 | h e ih =>
 intro hw hs
 have ih' : ∀ x, x ∈ e.f2 → ∃ t, Ev (fun k => expr_match.f k x.f0 x.f1 x.f2 w) t ∧ Sp w.size t (SpL (lets w) (Lang x)) := fun x hx => ih x hx (hw.kid hx) (kid_shp2 hs hx)
 have hl := lets_len w
 obtain ⟨t, ht, hz⟩ := newSpans_ev w.size hn
 have fin : ∀ (g : Nat → List (List Int) → Option (List (List Int))) (m : List (List Int)), (∀ k, expr_match.f (k + 1) e.f0 e.f1 e.f2 w = (expr_newSpans.f k (w.size : Int)).bind fun t => g k t) → Ev (fun k => g k t) m → Ev (fun k => expr_match.f k e.f0 e.f1 e.f2 w) m := fun g m hg h => Ev.step (f := fun k => (expr_newSpans.f k (w.size : Int)).bind fun t => g k t) hg (Ev.bind (f := g) ht h)
 have zero : ∀ G : Nat → Nat → Prop, (∀ a b, a ≤ w.size → ¬ G a b) → Sp w.size t G := fun G hG => hz.congr (fun a ha b => ⟨fun h => h.elim, fun h => (hG a b ha h).elim⟩)
 by_cases h2 : e.f0 = 2
 ·obtain ⟨m, h1, h3⟩ := unit_loop hn (w.size + 1) 0 t (by omega) (zero _ (fun a b ha h => by omega))
  refine ⟨m, fin (fun k t => expr_match.l0 k t (t.length : Int) 0) m (fun k => by simp only [expr_match.f, if_pos h2]) (by rw [hz.len]; exact h1), h3.congr (fun a ha b => ?_)⟩
  unfold SpL
  rw [Lang_mk, if_pos h2, hl]
  constructor
  ·rintro rfl; exact ⟨Nat.le_refl _, ha, (sub_nil (Nat.le_refl _) (by omega)).mpr rfl⟩
  ·rintro ⟨q1, q2, q3⟩; exact ((sub_nil q1 (by omega)).mp q3).symm
 by_cases h3 : e.f0 = 3
 ·obtain ⟨m, h1, h4⟩ := letter_loop w hn e.f0 e.f1 e.f2 w.size 0 t (by omega) (zero _ (fun a b ha h => by omega))
  refine ⟨m, fin (fun k t => expr_match.l1 k w (w.size : Int) t 0 e.f0 e.f1 e.f2) m (fun k => by simp only [expr_match.f]; simp only [if_neg h2, if_pos h3]) h1, h4.congr (fun a ha b => ?_)⟩
  unfold SpL
  rw [Lang_mk, if_neg h2, if_pos h3, hl]
  constructor
  ·rintro ⟨q1, rfl, q3⟩
   exact ⟨by omega, by omega, _, (sub_one (by omega) (by omega) _).mpr ⟨rfl, rfl⟩, by rw [lets_get w q1]; exact q3⟩
  ·rintro ⟨q1, q2, c, q3, q4⟩
   obtain ⟨rfl, rfl⟩ := (sub_one q1 (by omega) _).mp q3
   exact ⟨by omega, rfl, by rw [lets_get w (by omega)] at q4; exact q4⟩
 by_cases h46 : e.f0 = 4 ∨ e.f0 = 6
 ·obtain ⟨m, h1, h4⟩ := mix_l2 hn w e hw.len ih' e.f2 [] t rfl (zero _ (fun a b ha h => h.2.2.1 rfl))
  refine ⟨m, fin (fun k t => expr_match.j2 k w (w.size : Int) t e.f0 true e.f0 e.f1 e.f2) m (fun k => ?_) (Ev.step (f := fun k => expr_match.l2 k w t e.f2 (e.f2.length : Int) 0 e.f0 e.f1 e.f2) (fun k => by simp only [expr_match.j2, if_true]) h1), h4.congr (fun a ha b => ?_)⟩
  ·simp only [expr_match.f]
   rcases h46 with h | h <;> simp [h]
  ·have := many_of hs (by omega)
   have hne : e.f2 ≠ [] := fun h => by rw [h] at this; simp at this
   unfold SpL soFar
   rw [Lang_mk, if_neg h2, if_neg h3]
   rcases h46 with h | h <;> simp [h, hne]
 have h4 : e.f0 ≠ 4 := fun h => h46 (.inl h)
 have h6 : e.f0 ≠ 6 := fun h => h46 (.inr h)
 have f6 : (e.f0 == 6) = false := by simpa using h6
 have fj : ∀ m, Ev (fun k => expr_match.j2 k w (w.size : Int) t e.f0 false e.f0 e.f1 e.f2) m → Ev (fun k => expr_match.f k e.f0 e.f1 e.f2 w) m := fun m h => fin (fun k t => expr_match.j2 k w (w.size : Int) t e.f0 false e.f0 e.f1 e.f2) m (fun k => by simp only [expr_match.f, if_neg h2, if_neg h3, if_neg h4, f6]) h
 by_cases h5 : e.f0 = 5
 ·have hm := many_of hs (by omega)
  obtain ⟨k0, rest, hk⟩ : ∃ k0 rest, e.f2 = k0 :: rest := by
   cases hq : e.f2 with
   | nil => rw [hq] at hm; simp at hm
   | cons a b => exact ⟨a, b, rfl⟩
  obtain ⟨t0, ht0, hs0⟩ := ih' k0 (by rw [hk]; simp)
  obtain ⟨m, h1, hm2⟩ := cat_loop hn w hl k0 rest (by have := hw.len; rw [hk] at this; simp at this; omega) (fun x hx => ih' x (by rw [hk]; simp [hx])) rest [] t0 rfl (hs0.congr (fun a ha b => by unfold SpL; rw [langCat_one]))
  refine ⟨m, fj m (Ev.step (f := fun k => (expr_match.f k k0.f0 k0.f1 k0.f2 w).bind fun t => expr_match.l5 k w t rest (rest.length : Int) 0) (fun k => ?_) (Ev.bind (f := fun k t => expr_match.l5 k w t rest (rest.length : Int) 0) ht0 h1)), hm2.congr (fun a ha b => ?_)⟩
  ·simp only [expr_match.j2]
   rw [if_neg (by simp), if_pos h5, hk, if_pos (by first | (simp; done) | (simp; omega)), rd_head]
   congr 1
   funext t
   rw [if_pos (by first | (simp; done) | (simp; omega))]
   rfl
  ·unfold SpL
   rw [Lang_mk, if_neg h2, if_neg h3, if_neg h4, if_pos h5, hk]
 by_cases h7 : e.f0 = 7
 ·obtain ⟨x, hx⟩ := not_one2 hs (.inl h7)
  obtain ⟨t0, ht0, hs0⟩ := ih' x (by rw [hx]; simp)
  obtain ⟨m, h1, hm2⟩ := star_l6 hn hl hs0 (w.size + 1) t (Nat.le_refl _) (zero _ (fun a b ha h => by omega))
  refine ⟨m, fj m (Ev.step (f := fun k => (expr_match.f k x.f0 x.f1 x.f2 w).bind fun s => expr_match.l6 k (w.size : Int) t s (w.size : Int)) (fun k => ?_) (Ev.bind (f := fun k s => expr_match.l6 k (w.size : Int) t s (w.size : Int)) ht0 (by rw [show (((w.size + 1 : Nat) : Int) - 1) = (w.size : Int) by omega] at h1; exact h1))), hm2.congr (fun a ha b => ?_)⟩
  ·simp only [expr_match.j2]
   rw [if_neg (by simp), if_neg h5, if_pos h7, hx, if_pos (by simp), rd_head]
  ·unfold SpL
   rw [Lang_mk, if_neg h2, if_neg h3, if_neg h4, if_neg h5, if_neg h6, if_pos h7, hx, langStar]
 by_cases h8 : e.f0 = 8
 ·obtain ⟨x, hx⟩ := not_one2 hs (.inr h8)
  obtain ⟨t0, ht0, hs0⟩ := ih' x (by rw [hx]; simp)
  obtain ⟨m, h1, hm2⟩ := not_l9 hn hs0 (w.size + 1) 0 t (by omega) (zero _ (fun a b ha h => by omega))
  refine ⟨m, fj m (Ev.step (f := fun k => (expr_match.f k x.f0 x.f1 x.f2 w).bind fun s => expr_match.l9 k (w.size : Int) t s 0) (fun k => ?_) (Ev.bind (f := fun k s => expr_match.l9 k (w.size : Int) t s 0) ht0 h1)), hm2.congr (fun a ha b => ?_)⟩
  ·simp only [expr_match.j2]
   rw [if_neg (by simp), if_neg h5, if_neg h7, if_pos h8, hx, if_pos (by simp), rd_head]
  ·unfold SpL
   rw [Lang_mk e, if_neg h2, if_neg h3, if_neg h4, if_neg h5, if_neg h6, if_neg h7, if_pos h8, hx, langNot, hl]
   constructor
   ·rintro ⟨q1, q2, q3⟩; exact ⟨q1, q2, fun h => q3 ⟨q1, q2, h⟩⟩
   ·rintro ⟨q1, q2, q3⟩; exact ⟨q1, q2, fun h => q3 h.2.2⟩
 ·refine ⟨t, fj t (Ev.step (f := fun _ => some t) (fun k => by simp only [expr_match.j2]; rw [if_neg (by simp), if_neg h5, if_neg h7, if_neg h8]) (Ev.now _)), zero _ (fun a b ha h => ?_)⟩
  have := h.2.2
  rw [Lang_mk, if_neg h2, if_neg h3, if_neg h4, if_neg h5, if_neg h6, if_neg h7, if_neg h8] at this
  exact this
end Go.Proofs.Ytjofkebiacaciaa.T04
end
section
namespace Go.Proofs.Ytjofkebiacaciaa.T04
open Go Go.RowKit Go.Proofs.Ytjofkebiacaciaa.PAll Go.Proofs.YtjofkebiacaciaaW.PrintWords Go.Proofs.YtjofkebiacaciaaW.PrintLast Go.Proofs.YtjofkebiacaciaaW.PrintMore Go.Proofs.Ytjofkebiacaciaa.AllRead24 Go.Proofs.Ytjofkebiacaciaa.Bit64
set_option linter.all false
def LetterOK (c : Int) : Prop := 97 ≤ c ∧ (c - 97) % 256 < 6
def WV (w : ByteArray) : Prop := w.size ≤ 2048 ∧ ∀ i : Nat, i < w.size → LetterOK (Go.Proofs.YtjofkebiacaciaaW.PrintWords.bt w (i : Int))
theorem word_loop (w : ByteArray) (hn : w.size ≤ 2048) : ∀ (d i : Nat), i + d = w.size → ∃ b, (Ev (fun k => word_Valid.l0 k w 6 (i : Int)) b ∧ Ev (fun k => semigroupref01_Valid.l0 k w 6 (i : Int)) b) ∧ (b = true ↔ ∀ j : Nat, i ≤ j → j < w.size → LetterOK (Go.Proofs.YtjofkebiacaciaaW.PrintWords.bt w (j : Int))) := by
 intro d
 induction d with
 | zero =>
  intro i hi
  exact ⟨true, ⟨Ev.step (f := fun _ => some true) (fun k => by simp only [word_Valid.l0]; rw [if_neg (by omega)]) (Ev.now _), Ev.step (f := fun _ => some true) (fun k => by simp only [semigroupref01_Valid.l0]; rw [if_neg (by omega)]) (Ev.now _)⟩, fun _ j h1 h2 => by omega, fun _ => rfl⟩
 | succ d ih =>
  intro i hi
  have no : ∀ h : ¬ LetterOK (Go.Proofs.YtjofkebiacaciaaW.PrintWords.bt w (i : Int)), ((false = true) ↔ ∀ j : Nat, i ≤ j → j < w.size → LetterOK (Go.Proofs.YtjofkebiacaciaaW.PrintWords.bt w (j : Int))) := fun h => ⟨fun h' => (by cases h'), fun h' => absurd (h' i (Nat.le_refl _) (by omega)) h⟩
  by_cases c1 : Go.Proofs.YtjofkebiacaciaaW.PrintWords.bt w (i : Int) < 97
  ·exact ⟨false, ⟨Ev.step (f := fun _ => some false) (fun k => by simp only [word_Valid.l0]; rw [if_pos (by omega), if_pos (by omega), if_pos c1]) (Ev.now _), Ev.step (f := fun _ => some false) (fun k => by simp only [semigroupref01_Valid.l0]; rw [if_pos (by omega), if_pos (by omega), if_pos c1]) (Ev.now _)⟩, no (fun h => by have := h.1; omega)⟩
  by_cases c2 : (Go.Proofs.YtjofkebiacaciaaW.PrintWords.bt w (i : Int) - 97) % 256 ≥ 6
  ·exact ⟨false, ⟨Ev.step (f := fun _ => some false) (fun k => by simp only [word_Valid.l0]; rw [if_pos (by omega), if_pos (by omega), if_neg c1, if_pos c2]) (Ev.now _), Ev.step (f := fun _ => some false) (fun k => by simp only [semigroupref01_Valid.l0]; rw [if_pos (by omega), if_pos (by omega), if_neg c1, if_pos c2]) (Ev.now _)⟩, no (fun h => by have := h.2; omega)⟩
  obtain ⟨b, ⟨h1, h2⟩, h3⟩ := ih (i + 1) (by omega)
  refine ⟨b, ⟨Ev.step (f := fun k => word_Valid.l0 k w 6 ((i + 1 : Nat) : Int)) (fun k => by simp only [word_Valid.l0]; rw [if_pos (by omega), if_pos (by omega), if_neg c1, if_neg c2, up1 (by omega)]) h1, Ev.step (f := fun k => semigroupref01_Valid.l0 k w 6 ((i + 1 : Nat) : Int)) (fun k => by simp only [semigroupref01_Valid.l0]; rw [if_pos (by omega), if_pos (by omega), if_neg c1, if_neg c2, up1 (by omega)]) h2⟩, h3.trans ⟨fun h j q1 q2 => ?_, fun h j q1 q2 => h j (by omega) q2⟩⟩
  by_cases e : j = i
  ·subst e; exact ⟨by omega, by omega⟩
  ·exact h j (by omega) q2
theorem word_ev (w : ByteArray) : ∃ b, (Ev (fun k => word_Valid.f k w 6) b ∧ Ev (fun k => semigroupref01_Valid.f k w 6) b) ∧ (b = true ↔ WV w) := by
 have f1 : ∀ b, Ev (fun k => word_Valid.j0 k w 6 (decide ((w.size : Int) > 2048))) b → Ev (fun k => word_Valid.f k w 6) b := fun b h => Ev.congr (fun k => by simp only [word_Valid.f]; rw [if_neg (by omega), if_neg (by omega)]) h
 have f2 : ∀ b, Ev (fun k => semigroupref01_Valid.j0 k w 6 (decide ((w.size : Int) > 2048))) b → Ev (fun k => semigroupref01_Valid.f k w 6) b := fun b h => Ev.congr (fun k => by simp only [semigroupref01_Valid.f, semigroupref01_MayLetters.f]; simp) h
 by_cases c : w.size ≤ 2048
 ·obtain ⟨b, ⟨h1, h2⟩, h3⟩ := word_loop w c w.size 0 (by omega)
  have d : decide ((w.size : Int) > 2048) = false := decide_eq_false (by omega)
  refine ⟨b, ⟨f1 b ?_, f2 b ?_⟩, h3.trans ⟨fun h => ⟨c, fun i hi => h i (by omega) hi⟩, fun h j _ hj => h.2 j hj⟩⟩
  ·rw [d]; exact Ev.step (f := fun k => word_Valid.l0 k w 6 0) (fun k => by simp only [word_Valid.j0]; simp) h1
  ·rw [d]; exact Ev.step (f := fun k => semigroupref01_Valid.l0 k w 6 0) (fun k => by simp only [semigroupref01_Valid.j0]; simp) h2
 ·have d : decide ((w.size : Int) > 2048) = true := decide_eq_true (by omega)
  refine ⟨false, ⟨f1 _ ?_, f2 _ ?_⟩, ⟨fun h => (by cases h), fun h => absurd h.1 c⟩⟩
  ·rw [d]; exact Ev.step (f := fun _ => some false) (fun k => by simp only [word_Valid.j0]; simp) (Ev.now _)
  ·rw [d]; exact Ev.step (f := fun _ => some false) (fun k => by simp only [semigroupref01_Valid.j0]; simp) (Ev.now _)
theorem Match_ev (w : ByteArray) (hw : WV w) (e : S24) (he : WF e) (hv : Vld e) : ∃ b, Ev (fun k => expr_Match.f k e.f0 e.f1 e.f2 w) b ∧ (b = true ↔ Lang e (lets w)) := by
 obtain ⟨v, ⟨h1, _⟩, h2⟩ := word_ev w
 have hvt : v = true := h2.mpr hw
 subst hvt
 obtain ⟨m, g1, g2⟩ := match_ev w (by have := hw.1; omega) e he hv.2
 obtain ⟨b, q1, q2⟩ := has_eq (by have := hw.1; omega) g2 (Nat.zero_le _) (Nat.le_refl _)
 have v1 := valid_prog e he
 rw [decide_eq_true hv] at v1
 refine ⟨b, Ev.congr (f := fun k => (expr_valid.f k e.f0 e.f1 e.f2).bind fun t => if t = true then ((word_Valid.f k w 6).bind fun u => if u = true then ((expr_match.f k e.f0 e.f1 e.f2 w).bind fun m => (expr_spans_has.f m 0 (w.size : Int)).bind fun z => some z) else some false) else some false) (fun k => by simp only [expr_Match.f]) (Ev.bind v1 ?_), q2.trans ⟨fun h => ?_, fun h => ⟨Nat.zero_le _, by rw [lets_len]; exact Nat.le_refl _, ?_⟩⟩⟩
 ·simp only [if_true]
  refine Ev.bind h1 ?_
  simp only [if_true]
  refine Ev.bind (f := fun _ m => (expr_spans_has.f m 0 (w.size : Int)).bind fun z => some z) g1 ?_
  rw [show expr_spans_has.f m 0 (w.size : Int) = some b from q1]
  exact Ev.now _
 ·have := h.2.2
  unfold sub at this
  rw [List.drop_zero, Nat.sub_zero, List.take_of_length_le (by rw [lets_len]; exact Nat.le_refl _)] at this
  exact this
 ·unfold sub
  rw [List.drop_zero, Nat.sub_zero, List.take_of_length_le (by rw [lets_len]; exact Nat.le_refl _)]
  exact h
end Go.Proofs.Ytjofkebiacaciaa.T04
end
section
namespace Go.Proofs.Ytjofkebiacaciaa.T04
open Go Go.RowKit Go.Proofs.Ytjofkebiacaciaa.PAll Go.Proofs.YtjofkebiacaciaaW.PrintWords Go.Proofs.YtjofkebiacaciaaW.PrintLast Go.Proofs.YtjofkebiacaciaaW.PrintMore Go.Proofs.Ytjofkebiacaciaa.AllRead24
set_option linter.all false
theorem refDepth (e : S24) (he : WF e) (hg : Vld e) : Ev (fun k => semigroupref04_Depth.f k e.f0 e.f1 e.f2) (depth e : Int) := by
 obtain ⟨n, d, m1, m2, m3⟩ := measure_ev e he
 exact Ev.congr (f := fun k => (semigroupref04_measure.f k e.f0 e.f1 e.f2 400).bind fun t => some t.2) (fun k => by simp only [semigroupref04_Depth.f]) (Ev.bind (f := fun _ t => some t.2) m1 (Ev.to (Ev.now _) (m3 hg.1.1)))
theorem refSize (e : S24) (he : WF e) (hg : Vld e) : Ev (fun k => semigroupref04_Size.f k e.f0 e.f1 e.f2) (size e : Int) := by
 obtain ⟨n, d, m1, m2, m3⟩ := measure_ev e he
 have hs := hg.1.1
 have hn : (n : Int) = size e := by omega
 exact Ev.congr (f := fun k => (semigroupref04_measure.f k e.f0 e.f1 e.f2 400).bind fun t => some t.1) (fun k => by simp only [semigroupref04_Size.f]) (Ev.bind (f := fun _ t => some t.1) m1 (Ev.to (Ev.now _) hn))
theorem little_ev (e : S24) (he : WF e) (most : Int) : ∃ b, Ev (fun k => semigrouplaw04_little.f k e.f0 e.f1 e.f2 most) b ∧ (b = true → Vld e ∧ (size e : Int) ≤ most ∧ depth e ≤ 12) := by
 have v := valid_ref e he
 by_cases hg : Vld e
 ·rw [decide_eq_true hg] at v
  by_cases hs : (size e : Int) ≤ most
  ·refine ⟨decide ((depth e : Int) ≤ 12), Ev.congr (fun k => by simp only [semigrouplaw04_little.f]; rfl) (Ev.bind v ?_), fun h => ⟨hg, hs, by have := of_decide_eq_true h; omega⟩⟩
   simp only [if_true]
   refine Ev.bind (refSize e he hg) ?_
   simp only [if_pos hs]
   exact Ev.bind (f := fun _ t => some (decide (t ≤ 12))) (refDepth e he hg) (Ev.now _)
  ·refine ⟨false, Ev.congr (fun k => by simp only [semigrouplaw04_little.f]; rfl) (Ev.bind v ?_), fun h => by cases h⟩
   simp only [if_true]
   refine Ev.bind (refSize e he hg) ?_
   simp only [if_neg hs]
   exact Ev.now _
 ·rw [decide_eq_false hg] at v
  refine ⟨false, Ev.congr (fun k => by simp only [semigrouplaw04_little.f]; rfl) (Ev.bind v ?_), fun h => by cases h⟩
  simp only [if_neg (show ¬ (false = true) by decide)]
  exact Ev.now _
theorem wf_node {o : Int} (h0 : 1 ≤ o) (h8 : o ≤ 8) {l : List S24} (hl : l.length ≤ 2) (h : ∀ k, k ∈ l → WF k) : WF ⟨o, 0, l⟩ :=
 WF.mk _ (by show (Lit.int .i64 o).wf = true; simp [Lit.wf, IntKind.min, IntKind.max, IntKind.signed, IntKind.bits]; omega) (show (Lit.int .i64 0).wf = true by decide) (by show l.length ≤ maxLen; unfold maxLen; omega) h
theorem vld_two {o : Int} (ho : o = 4 ∨ o = 5 ∨ o = 6) {a b : S24} (ha : Vld a) (hb : Vld b) (h : size a + size b ≤ 399) (d : depth a < 40 ∧ depth b < 40) : Vld ⟨o, 0, [a, b]⟩ := by
 refine ⟨⟨by simp [size, sizes]; omega, by simp [depth, depths]; omega⟩, ?_⟩
 rw [shp]
 simp only [shps, ha.2, hb.2]
 rcases ho with rfl | rfl | rfl <;> rfl
theorem vld_one {o : Int} (ho : o = 7 ∨ o = 8) {a : S24} (ha : Vld a) (h : size a ≤ 399) (d : depth a < 40) : Vld ⟨o, 0, [a]⟩ := by
 refine ⟨⟨by simp [size, sizes]; omega, by simp [depth, depths]; omega⟩, ?_⟩
 rw [shp]
 simp only [shps, ha.2]
 rcases ho with rfl | rfl <;> rfl
end Go.Proofs.Ytjofkebiacaciaa.T04
end
section
namespace Go.Proofs.Ytjofkebiacaciaa.Pure
open Go Go.RowKit Go.Proofs.Ytjofkebiacaciaa.PAll Go.Proofs.YtjofkebiacaciaaW.PrintWords Go.Proofs.YtjofkebiacaciaaW.PrintLast Go.Proofs.Ytjofkebiacaciaa.AllRead24 Go.Proofs.Ytjofkebiacaciaa.T04
set_option linter.all false
theorem ExprBoolean (a b : S24) (w : ByteArray) (ha : WF a) (hb : WF b) (_ : w.size ≤ 140737488351232) : ∃ k, semigrouplaw04_ExprBoolean.f k a.f0 a.f1 a.f2 b.f0 b.f1 b.f2 w = some true := by
 have aw : Ev (fun k => (semigrouplaw04_awake.f k).bind fun z => some z) true := Ev.bind (f := fun _ z => some z) awake_ev (Ev.now _)
 have out : Ev (fun k => semigrouplaw04_ExprBoolean.j0 k w true a.f0 a.f1 a.f2 b.f0 b.f1 b.f2) true := Ev.step (f := fun k => (semigrouplaw04_awake.f k).bind fun z => some z) (fun k => by simp only [semigrouplaw04_ExprBoolean.j0, if_true]) aw
 refine Ev.rounds (g := fun k => semigrouplaw04_ExprBoolean.f k a.f0 a.f1 a.f2 b.f0 b.f1 b.f2 w) ?_
 refine Ev.congr (fun k => by simp only [semigrouplaw04_ExprBoolean.f]; rfl) ?_
 obtain ⟨la, la1, la2⟩ := little_ev a ha 40
 obtain ⟨lb, lb1, lb2⟩ := little_ev b hb 40
 obtain ⟨v, ⟨_, v1⟩, v2⟩ := word_ev w
 refine Ev.bind la1 ?_
 cases la with
 | false => simp only [if_neg (show ¬ (false = true) by decide)]; exact out
 | true =>
 simp only [if_true]
 refine Ev.bind lb1 ?_
 cases lb with
 | false => simp only [if_neg (show ¬ (false = true) by decide)]; exact out
 | true =>
 simp only [if_true]
 by_cases h8 : (w.size : Int) > 8
 ·simp only [if_pos h8]; exact out
 simp only [if_neg h8]
 refine Ev.bind v1 ?_
 cases v with
 | false => simp only [if_neg (show ¬ (false = true) by decide)]; exact out
 | true =>
 simp only [if_true]
 obtain ⟨va, sa, da⟩ := la2 rfl
 obtain ⟨vb, sb, db⟩ := lb2 rfl
 have hw := v2.mp rfl
 refine Ev.bind (refDepth a ha va) ?_
 have c1 : ¬ (depth a : Int) ≥ 40 := by omega
 simp only [if_neg c1]
 refine Ev.bind (refDepth b hb vb) ?_
 have c2 : decide ((depth b : Int) ≥ 40) = false := decide_eq_false (by omega)
 simp only [c2]
 have wo : WF ⟨4, 0, [a, b]⟩ := wf_node (by decide) (by decide) (by simp) (by simp [ha, hb])
 have wa : WF ⟨6, 0, [a, b]⟩ := wf_node (by decide) (by decide) (by simp) (by simp [ha, hb])
 have wn : WF ⟨8, 0, [a]⟩ := wf_node (by decide) (by decide) (by simp) (by simp [ha])
 obtain ⟨x, x1, x2⟩ := Match_ev w hw a ha va
 obtain ⟨y, y1, y2⟩ := Match_ev w hw b hb vb
 obtain ⟨o, o1, o2⟩ := Match_ev w hw _ wo (vld_two (.inl rfl) va vb (by omega) ⟨by omega, by omega⟩)
 obtain ⟨n, n1, n2⟩ := Match_ev w hw _ wa (vld_two (.inr (.inr rfl)) va vb (by omega) ⟨by omega, by omega⟩)
 obtain ⟨t, t1, t2⟩ := Match_ev w hw _ wn (vld_one (.inr rfl) va (by omega) (by omega))
 have e1 : o = (x || y) := by
  rw [Bool.eq_iff_iff, o2, Bool.or_eq_true, x2, y2, Lang]
  simp [langOne]
 have e2 : n = (x && y) := by
  rw [Bool.eq_iff_iff, n2, Bool.and_eq_true, x2, y2, Lang]
  simp [langAll]
 have e3 : t = !x := by
  rw [Bool.eq_iff_iff, t2, Bool.not_eq_true', ← Bool.not_eq_true, x2, Lang]
  simp [langNot]
 subst e1 e2 e3
 have ea : (⟨a.f0, a.f1, a.f2⟩ : S24) = a := by cases a; rfl
 have eb : (⟨b.f0, b.f1, b.f2⟩ : S24) = b := by cases b; rfl
 have p1 : Ev (fun k => expr_Match.f k 4 0 [(⟨a.f0, a.f1, a.f2⟩ : S24), (⟨b.f0, b.f1, b.f2⟩ : S24)] w) (x || y) := by rw [ea, eb]; exact o1
 have p2 : Ev (fun k => expr_Match.f k 6 0 [(⟨a.f0, a.f1, a.f2⟩ : S24), (⟨b.f0, b.f1, b.f2⟩ : S24)] w) (x && y) := by rw [ea, eb]; exact n1
 have p3 : Ev (fun k => expr_Match.f k 8 0 [(⟨a.f0, a.f1, a.f2⟩ : S24)] w) (!x) := by rw [ea]; exact t1
 refine Ev.step (fun k => by simp only [semigrouplaw04_ExprBoolean.j0]; rfl) ?_
 simp only [if_neg (show ¬ (false = true) by decide)]
 refine Ev.bind x1 (Ev.bind y1 (Ev.bind p1 (Ev.bind p2 (Ev.bind p3 ?_))))
 cases x <;> cases y <;> simp <;> first | exact aw | simpa using aw
end Go.Proofs.Ytjofkebiacaciaa.Pure
end
