/- The functions that the laws of this seat reach, a proof for each that the Go code comes to them, and the plain laws; merged. Conditions: none beside those of the given statements. -/
import Derived.Laws.Bits64b
import Derived.Laws.BitsAllLaws
import Derived.Test.YtjofkebiacaciaaMc14
import Derived.Test.YtjofkebiacaciaaMExprBoolean1
import Derived.Test.YtjofkebiacaciaaMExprBoolean2
import Derived.Test.YtjofkebiacaciaaMc16
import Derived.Test.YtjofkebiacaciaaMcWMore
section
namespace Go.Proofs.Ytjofkebiacaciaa.PAll
open Go.RowKit Go.Proofs.YtjofkebiacaciaaW.PrintWords Go.Proofs.YtjofkebiacaciaaW.PrintLast Go.Proofs.YtjofkebiacaciaaW.PrintMore
attribute [local go_sem] max2_int min2_int max_two min_two max_three min_three max_four min_four
set_option linter.unusedVariables false
set_option linter.unusedSimpArgs false
def expr_Match.f (k : Nat) (a0_0 : Int) (a0_1 : Int) (l0_2 : List (S24)) (a1 : ByteArray) : Option (Bool) := (expr_valid.f k a0_0 a0_1 l0_2).bind fun t388 => (if t388 = true then ((word_Valid.f k a1 6).bind fun t389 => (if t389 = true then ((expr_match.f k a0_0 a0_1 l0_2 a1).bind fun t390 => ((expr_spans_has.f t390 0 (a1.size : Int)).bind fun t393 => (some t393))) else (some false))) else (some false))
theorem expr_Match.mono : ∀ a0 a1 a2 a3 k, LeO (expr_Match.f k a0 a1 a2 a3) (expr_Match.f (k + 1) a0 a1 a2 a3) := by
 intro a0 a1 a2 a3 k
 unfold expr_Match.f
 repeat' first
   | (with_reducible exact expr_match.mono _ _ _ _ _)
   | (with_reducible exact expr_valid.mono _ _ _ _)
   | (with_reducible exact word_Valid.mono _ _ _)
   | (with_reducible exact LeO.refl _)
   | (with_reducible exact LeO.none _)
   | (with_reducible refine LeO.ite ?_ ?_)
   | (with_reducible refine LeO.bind ?_ (fun _ => ?_))
   | exact expr_match.mono _ _ _ _ _
   | exact expr_valid.mono _ _ _ _
   | exact word_Valid.mono _ _ _
   | exact LeO.none _
   | refine LeO.ite ?_ ?_
   | refine LeO.bind ?_ (fun _ => ?_)
set_option maxHeartbeats 8000000 in
set_option maxRecDepth 100000 in
theorem expr_Match.calls (k : Nat) (a0_0 : Int) (a0_1 : Int) (A0_2 : Option Addr) (c0_2 : Nat) (l0_2 : List (S24)) (a1 : ByteArray) (r : Bool) (w : World) (hr0_2 : Kd.C k24 w A0_2 l0_2.length l0_2) (hc0_2 : l0_2.length ≤ c0_2) (h : expr_Match.f k a0_0 a0_1 l0_2 a1 = some r) :
  Calls Try.prog 35 #[.agg #[.int .i64 a0_0, .int .i64 a0_1, .slice A0_2 l0_2.length c0_2], .string a1] w fun e w' => e = .returned (.bool r) ∧ Below w.heap.size w w' := by
 have hu24 := Try.underlying24
 have HR0_2 := Aside0.mk hr0_2
 have HC0_2 := Aside0.mk hc0_2
 clear hr0_2 hc0_2
 have HB := Aside0.mk (Below.refl w.heap.size w)
 have H : ((expr_valid.f k a0_0 a0_1 l0_2).bind fun t388 => (if t388 = true then ((word_Valid.f k a1 6).bind fun t389 => (if t389 = true then ((expr_match.f k a0_0 a0_1 l0_2 a1).bind fun t390 => ((expr_spans_has.f t390 0 (a1.size : Int)).bind fun t393 => (some t393))) else (some false))) else (some false))) = some r := h
 clear h
 replace H := Option.bind_eq_some_iff.mp H
 obtain ⟨t388, A30, H⟩ := H
 replace H : (if t388 = true then ((word_Valid.f k a1 6).bind fun t389 => (if t389 = true then ((expr_match.f k a0_0 a0_1 l0_2 a1).bind fun t390 => ((expr_spans_has.f t390 0 (a1.size : Int)).bind fun t393 => (some t393))) else (some false))) else (some false)) = some r := H
 have A3 := Aside0.mk A30
 clear A30
 by_cases c4 : t388 = true
 ·subst c4
  have H1 : ((word_Valid.f k a1 6).bind fun t389 => (if t389 = true then ((expr_match.f k a0_0 a0_1 l0_2 a1).bind fun t390 => ((expr_spans_has.f t390 0 (a1.size : Int)).bind fun t393 => (some t393))) else (some false))) = some r := by rw [if_pos rfl] at H; exact H
  clear H
  have H := H1
  clear H1
  replace H := Option.bind_eq_some_iff.mp H
  obtain ⟨t389, A50, H⟩ := H
  replace H : (if t389 = true then ((expr_match.f k a0_0 a0_1 l0_2 a1).bind fun t390 => ((expr_spans_has.f t390 0 (a1.size : Int)).bind fun t393 => (some t393))) else (some false)) = some r := H
  have A5 := Aside0.mk A50
  clear A50
  by_cases c6 : t389 = true
  ·subst c6
   have H1 : ((expr_match.f k a0_0 a0_1 l0_2 a1).bind fun t390 => ((expr_spans_has.f t390 0 (a1.size : Int)).bind fun t393 => (some t393))) = some r := by rw [if_pos rfl] at H; exact H
   clear H
   have H := H1
   clear H1
   replace H := Option.bind_eq_some_iff.mp H
   obtain ⟨t390, A70, H⟩ := H
   replace H : ((expr_spans_has.f t390 0 (a1.size : Int)).bind fun t393 => (some t393)) = some r := H
   have A7 := Aside0.mk A70
   clear A70
   replace H := Option.bind_eq_some_iff.mp H
   obtain ⟨t393, A80, H⟩ := H
   replace H : (some t393) = some r := H
   have A8 := Aside0.mk A80
   clear A80
   obtain rfl := Option.some.inj H
   go_enter Try.func35, Try.ntmps35
   go_wp2_with (first | ((with_reducible refine gate_dst (N := 2) rfl ?_); (try (refine gate_guard (by rfl) ?_; dsimp only)); refine box_event ?hg (N := 2) ?hd (cs := #[.int .i64 a0_0, .int .i64 a0_1, .slice A0_2 l0_2.length c0_2]) (t := 24) ?hr ?_; (case hd => rfl); (case hg => rfl); (case hr => first | (go_simp; done) | (go_simp; rfl)); intro gb387 hg w9 hbox hb; have n0_ := Aside0.mk (below_step (bB) hb); have n1_ := Aside0.mk (hbox); have n2_ := Aside0.mk ((by rw [hg]; exact (below_size (bB)) : w.heap.size ≤ gb387)); have n3_ := Aside0.mk ((by rw [hg]; exact (below_size (bB)) : w.heap.size ≤ gb387)); clear HB; have HB := n0_; have BK387 := n1_; have GW387 := n2_; have GE387 := n3_; clear n0_ n1_ n2_ n3_; clear hb hbox hg; have hcz10_0 : w9.cell? ⟨gb387, 0, none⟩ = some (.int .i64 a0_0) := (blk_cell BK387.out 0).trans rfl; have hcz10_1 : w9.cell? ⟨gb387, 1, none⟩ = some (.int .i64 a0_1) := (blk_cell BK387.out 1).trans rfl; have hcz10_2 : w9.cell? ⟨gb387, 2, none⟩ = some (.slice A0_2 l0_2.length c0_2) := (blk_cell BK387.out 2).trans rfl; have hfz10_0 := blk_frozen BK387.out 0; have hfz10_1 := blk_frozen BK387.out 1; have hfz10_2 := blk_frozen BK387.out 2) | ((with_reducible refine gate_callee (f := 46) rfl ?_); refine goesL_ (some 6) rfl rfl Try.func46 (by kernel_rfl) rfl #[.agg #[.int .i64 a0_0, .int .i64 a0_1, .slice A0_2 l0_2.length c0_2]] rfl (by (try simp only [List.map_toArray, List.map_cons, List.map_nil]); first | done | rfl | (simp only [List.length_drop, List.length_take]; rfl) | (simp only [Int.ofNat_lt, Int.ofNat_le]; rfl)) ?_; (with_reducible refine (expr_valid.calls k a0_0 a0_1 _ _ l0_2 true _ ?side1 ?side2 A3.out).mono ?_); (case side1 => repeat (first | exact (Kd.C_below HR0_2.out HB.out) | (with_reducible refine Kd.C_alloc ?_ _) | (with_reducible refine Kd.C_drewN ?_ _) | (with_reducible refine Kd.C_drew ?_))); (case side2 => exact HC0_2.out); rintro e w11 ⟨rfl, hb⟩; refine ⟨_, rfl, ?_⟩; have n0_ := Aside0.mk (blk_below (g := gb387) (o := .cells #[.int .i64 a0_0, .int .i64 a0_1, .slice A0_2 l0_2.length c0_2] 24 (0, 0)) (bK) hb); have n1_ := Aside0.mk (below_step (bB) hb); clear BK387; clear HB; have BK387 := n0_; have HB := n1_; clear n0_ n1_; (try clear hb); (try clear hb2); (try clear hk); (try clear hi)) | (go_at_call 59; (with_reducible refine (word_Valid.calls k a1 6 true _ A5.out).mono ?_); rintro e w' ⟨rfl, ⟨nd, rfl⟩⟩; have hcz12_0 : w11.cell? ⟨gb387, 0, none⟩ = some (.int .i64 a0_0) := (blk_cell BK387.out 0).trans rfl; have hcz12_1 : w11.cell? ⟨gb387, 1, none⟩ = some (.int .i64 a0_1) := (blk_cell BK387.out 1).trans rfl; have hcz12_2 : w11.cell? ⟨gb387, 2, none⟩ = some (.slice A0_2 l0_2.length c0_2) := (blk_cell BK387.out 2).trans rfl; have hfz12_0 := blk_frozen BK387.out 0; have hfz12_1 := blk_frozen BK387.out 1; have hfz12_2 := blk_frozen BK387.out 2) | ((fail_if_success (have chk_ := HO392)); go_at_call 60; (with_reducible refine (expr_match.calls k a0_0 a0_1 _ _ l0_2 a1 t390 _ ?side1 ?side2 A7.out).mono ?_); (case side1 => repeat (first | exact (Kd.C_below HR0_2.out (bB)) | (with_reducible refine Kd.C_alloc ?_ _) | (with_reducible refine Kd.C_drewN ?_ _) | (with_reducible refine Kd.C_drew ?_))); (case side2 => exact HC0_2.out); rintro e w13 ⟨v391, rfl, ho0, hb⟩; have n0_ := Aside0.mk (Kd.S_lower ho0 (below_size (bB))); have n1_ := Aside0.mk (blk_below (g := gb387) (o := .cells #[.int .i64 a0_0, .int .i64 a0_1, .slice A0_2 l0_2.length c0_2] 24 (0, 0)) (bK) hb); have n2_ := Aside0.mk (below_step (bB) hb); clear BK387; clear HB; have HO392 := n0_; have BK387 := n1_; have HB := n2_; clear n0_ n1_ n2_; (try clear hb); (try clear hb2); (try clear hk); (try clear hi); (try clear ho0); obtain ⟨Ao14, co14, eo14⟩ := Kd.S_slice HO392.out; subst eo14) | (go_at_call 61; (with_reducible refine (expr_spans_has.calls _ _ t390 0 (a1.size : Int) t393 _ ?side1 ?side2 A8.out).mono ?_); (case side1 => repeat (first | exact (Kd.S_reads' HO392.out).2.2 | (with_reducible refine Kd.C_alloc ?_ _) | (with_reducible refine Kd.C_drewN ?_ _) | (with_reducible refine Kd.C_drew ?_))); (case side2 => exact (Kd.S_reads' HO392.out).2.1); rintro e w' ⟨rfl, ⟨nd, rfl⟩⟩))
   go_ret
   exact ⟨by first | rfl | (simp [errW_none, errW_some] <;> rfl) | (simp [*, errW_none, errW_some] <;> rfl), bB⟩
  ·replace c6 := Bool.eq_false_iff.mpr c6
   subst c6
   have H1 : (some false) = some r := by rw [if_neg (show ¬ (false = true) by decide)] at H; exact H
   clear H
   have H := H1
   clear H1
   obtain rfl := Option.some.inj H
   go_enter Try.func35, Try.ntmps35
   go_wp2_with (first | ((with_reducible refine gate_dst (N := 2) rfl ?_); (try (refine gate_guard (by rfl) ?_; dsimp only)); refine box_event ?hg (N := 2) ?hd (cs := #[.int .i64 a0_0, .int .i64 a0_1, .slice A0_2 l0_2.length c0_2]) (t := 24) ?hr ?_; (case hd => rfl); (case hg => rfl); (case hr => first | (go_simp; done) | (go_simp; rfl)); intro gb387 hg w15 hbox hb; have n0_ := Aside0.mk (below_step (bB) hb); have n1_ := Aside0.mk (hbox); have n2_ := Aside0.mk ((by rw [hg]; exact (below_size (bB)) : w.heap.size ≤ gb387)); have n3_ := Aside0.mk ((by rw [hg]; exact (below_size (bB)) : w.heap.size ≤ gb387)); clear HB; have HB := n0_; have BK387 := n1_; have GW387 := n2_; have GE387 := n3_; clear n0_ n1_ n2_ n3_; clear hb hbox hg; have hcz16_0 : w15.cell? ⟨gb387, 0, none⟩ = some (.int .i64 a0_0) := (blk_cell BK387.out 0).trans rfl; have hcz16_1 : w15.cell? ⟨gb387, 1, none⟩ = some (.int .i64 a0_1) := (blk_cell BK387.out 1).trans rfl; have hcz16_2 : w15.cell? ⟨gb387, 2, none⟩ = some (.slice A0_2 l0_2.length c0_2) := (blk_cell BK387.out 2).trans rfl; have hfz16_0 := blk_frozen BK387.out 0; have hfz16_1 := blk_frozen BK387.out 1; have hfz16_2 := blk_frozen BK387.out 2) | ((with_reducible refine gate_callee (f := 46) rfl ?_); refine goesL_ (some 6) rfl rfl Try.func46 (by kernel_rfl) rfl #[.agg #[.int .i64 a0_0, .int .i64 a0_1, .slice A0_2 l0_2.length c0_2]] rfl (by (try simp only [List.map_toArray, List.map_cons, List.map_nil]); first | done | rfl | (simp only [List.length_drop, List.length_take]; rfl) | (simp only [Int.ofNat_lt, Int.ofNat_le]; rfl)) ?_; (with_reducible refine (expr_valid.calls k a0_0 a0_1 _ _ l0_2 true _ ?side1 ?side2 A3.out).mono ?_); (case side1 => repeat (first | exact (Kd.C_below HR0_2.out HB.out) | (with_reducible refine Kd.C_alloc ?_ _) | (with_reducible refine Kd.C_drewN ?_ _) | (with_reducible refine Kd.C_drew ?_))); (case side2 => exact HC0_2.out); rintro e w17 ⟨rfl, hb⟩; refine ⟨_, rfl, ?_⟩; have n0_ := Aside0.mk (blk_below (g := gb387) (o := .cells #[.int .i64 a0_0, .int .i64 a0_1, .slice A0_2 l0_2.length c0_2] 24 (0, 0)) (bK) hb); have n1_ := Aside0.mk (below_step (bB) hb); clear BK387; clear HB; have BK387 := n0_; have HB := n1_; clear n0_ n1_; (try clear hb); (try clear hb2); (try clear hk); (try clear hi)) | (go_at_call 59; (with_reducible refine (word_Valid.calls k a1 6 false _ A5.out).mono ?_); rintro e w' ⟨rfl, ⟨nd, rfl⟩⟩))
   go_ret
   exact ⟨by first | rfl | (simp [errW_none, errW_some] <;> rfl) | (simp [*, errW_none, errW_some] <;> rfl), bB⟩
 ·replace c4 := Bool.eq_false_iff.mpr c4
  subst c4
  have H1 : (some false) = some r := by rw [if_neg (show ¬ (false = true) by decide)] at H; exact H
  clear H
  have H := H1
  clear H1
  obtain rfl := Option.some.inj H
  go_enter Try.func35, Try.ntmps35
  go_wp2_with (first | ((with_reducible refine gate_dst (N := 2) rfl ?_); (try (refine gate_guard (by rfl) ?_; dsimp only)); refine box_event ?hg (N := 2) ?hd (cs := #[.int .i64 a0_0, .int .i64 a0_1, .slice A0_2 l0_2.length c0_2]) (t := 24) ?hr ?_; (case hd => rfl); (case hg => rfl); (case hr => first | (go_simp; done) | (go_simp; rfl)); intro gb387 hg w18 hbox hb; have n0_ := Aside0.mk (below_step (bB) hb); have n1_ := Aside0.mk (hbox); have n2_ := Aside0.mk ((by rw [hg]; exact (below_size (bB)) : w.heap.size ≤ gb387)); have n3_ := Aside0.mk ((by rw [hg]; exact (below_size (bB)) : w.heap.size ≤ gb387)); clear HB; have HB := n0_; have BK387 := n1_; have GW387 := n2_; have GE387 := n3_; clear n0_ n1_ n2_ n3_; clear hb hbox hg; have hcz19_0 : w18.cell? ⟨gb387, 0, none⟩ = some (.int .i64 a0_0) := (blk_cell BK387.out 0).trans rfl; have hcz19_1 : w18.cell? ⟨gb387, 1, none⟩ = some (.int .i64 a0_1) := (blk_cell BK387.out 1).trans rfl; have hcz19_2 : w18.cell? ⟨gb387, 2, none⟩ = some (.slice A0_2 l0_2.length c0_2) := (blk_cell BK387.out 2).trans rfl; have hfz19_0 := blk_frozen BK387.out 0; have hfz19_1 := blk_frozen BK387.out 1; have hfz19_2 := blk_frozen BK387.out 2) | ((with_reducible refine gate_callee (f := 46) rfl ?_); refine goesL_ (some 6) rfl rfl Try.func46 (by kernel_rfl) rfl #[.agg #[.int .i64 a0_0, .int .i64 a0_1, .slice A0_2 l0_2.length c0_2]] rfl (by (try simp only [List.map_toArray, List.map_cons, List.map_nil]); first | done | rfl | (simp only [List.length_drop, List.length_take]; rfl) | (simp only [Int.ofNat_lt, Int.ofNat_le]; rfl)) ?_; (with_reducible refine (expr_valid.calls k a0_0 a0_1 _ _ l0_2 false _ ?side1 ?side2 A3.out).mono ?_); (case side1 => repeat (first | exact (Kd.C_below HR0_2.out HB.out) | (with_reducible refine Kd.C_alloc ?_ _) | (with_reducible refine Kd.C_drewN ?_ _) | (with_reducible refine Kd.C_drew ?_))); (case side2 => exact HC0_2.out); rintro e w20 ⟨rfl, hb⟩; refine ⟨_, rfl, ?_⟩; have n0_ := Aside0.mk (blk_below (g := gb387) (o := .cells #[.int .i64 a0_0, .int .i64 a0_1, .slice A0_2 l0_2.length c0_2] 24 (0, 0)) (bK) hb); have n1_ := Aside0.mk (below_step (bB) hb); clear BK387; clear HB; have BK387 := n0_; have HB := n1_; clear n0_ n1_; (try clear hb); (try clear hb2); (try clear hk); (try clear hi)))
  go_ret
  exact ⟨by first | rfl | (simp [errW_none, errW_some] <;> rfl) | (simp [*, errW_none, errW_some] <;> rfl), bB⟩
end Go.Proofs.Ytjofkebiacaciaa.PAll
end
section
namespace Go.Proofs.Ytjofkebiacaciaa.PAll
open Go.RowKit Go.Proofs.YtjofkebiacaciaaW.PrintWords Go.Proofs.YtjofkebiacaciaaW.PrintLast Go.Proofs.YtjofkebiacaciaaW.PrintMore
attribute [local go_sem] max2_int min2_int max_two min_two max_three min_three max_four min_four
set_option linter.unusedVariables false
set_option linter.unusedSimpArgs false
def semigroupref01_MayLetters.f (a0 : Int) : Option (Bool) := if a0 ≥ 1 then (some (decide (a0 ≤ 6))) else (some false)
set_option maxHeartbeats 8000000 in
set_option maxRecDepth 100000 in
theorem semigroupref01_MayLetters.calls (a0 : Int) (r : Bool) (w : World) (h : semigroupref01_MayLetters.f a0 = some r) :
  Calls Try.prog 43 #[.int .i64 a0] w fun e w' => e = .returned (.bool r) ∧ Drawn0 w w' := by
 have H : (if a0 ≥ 1 then (some (decide (a0 ≤ 6))) else (some false)) = some r := h
 clear h
 by_cases c2 : a0 ≥ 1
 ·rw [if_pos c2] at H
  have c2b0 : decide (1 ≤ a0) = true := decide_eq_true c2
  clear c2
  obtain rfl := Option.some.inj H
  go_enter Try.func43, Try.ntmps43
  go_wp2
  go_ret
  exact ⟨by first | rfl | (simp; done) | (simp [*]; done), by repeat (first | exact Drawn0.refl _ | apply Drawn0.step)⟩
 ·rw [if_neg c2] at H
  have c2b0 : decide (1 ≤ a0) = false := decide_eq_false c2
  clear c2
  obtain rfl := Option.some.inj H
  go_enter Try.func43, Try.ntmps43
  go_wp2
  go_ret
  exact ⟨by first | rfl | (simp; done) | (simp [*]; done), by repeat (first | exact Drawn0.refl _ | apply Drawn0.step)⟩
end Go.Proofs.Ytjofkebiacaciaa.PAll
end
section
namespace Go.Proofs.Ytjofkebiacaciaa.PAll
open Go.RowKit Go.Proofs.YtjofkebiacaciaaW.PrintWords Go.Proofs.YtjofkebiacaciaaW.PrintLast Go.Proofs.YtjofkebiacaciaaW.PrintMore
attribute [local go_sem] max2_int min2_int max_two min_two max_three min_three max_four min_four
set_option linter.unusedVariables false
set_option linter.unusedSimpArgs false
mutual
def semigroupref01_Valid.j0 : Nat → ByteArray → Int → Bool → Option (Bool)
 | 0, _, _, _ => none
 | k + 1, x0, x1, x13 => if x13 = true then (some false) else (semigroupref01_Valid.l0 k x0 x1 0)
def semigroupref01_Valid.l0 : Nat → ByteArray → Int → Int → Option (Bool)
 | 0, _, _, _ => none
 | k + 1, x0, x1, x5 => if x5 < (x0.size : Int) then (if 0 ≤ x5 then (if (bt x0 x5) < 97 then (some false) else (if (((bt x0 x5) - 97) % 256) ≥ x1 then (some false) else (semigroupref01_Valid.l0 k x0 x1 (wrap64 (x5 + 1))))) else (none)) else (some true)
end
def semigroupref01_Valid.f (k : Nat) (a0 : ByteArray) (a1 : Int) : Option (Bool) := (semigroupref01_MayLetters.f a1).bind fun t394 => (if t394 = true then (semigroupref01_Valid.j0 k a0 a1 (decide ((a0.size : Int) > 2048))) else (semigroupref01_Valid.j0 k a0 a1 true))
theorem semigroupref01_Valid.mono_l : ∀ k, (∀ y0 y1 y2, LeO (semigroupref01_Valid.j0 k y0 y1 y2) (semigroupref01_Valid.j0 (k + 1) y0 y1 y2)) ∧ (∀ y0 y1 y2, LeO (semigroupref01_Valid.l0 k y0 y1 y2) (semigroupref01_Valid.l0 (k + 1) y0 y1 y2))
 | 0 => ⟨fun _ _ _ r h => by simp [semigroupref01_Valid.j0] at h, fun _ _ _ r h => by simp [semigroupref01_Valid.l0] at h⟩
 | k + 1 => by
  obtain ⟨ih0, ih1⟩ := semigroupref01_Valid.mono_l k
  refine ⟨?_, ?_⟩
  ·intro y0 y1 y2
   unfold semigroupref01_Valid.j0
   repeat' first
   | (with_reducible exact ih0 _ _ _)
   | (with_reducible exact ih1 _ _ _)
   | (with_reducible exact LeO.refl _)
   | (with_reducible exact LeO.none _)
   | (with_reducible refine LeO.ite ?_ ?_)
   | (with_reducible refine LeO.bind ?_ (fun _ => ?_))
   | exact ih0 _ _ _
   | exact ih1 _ _ _
   | exact LeO.none _
   | refine LeO.ite ?_ ?_
   | refine LeO.bind ?_ (fun _ => ?_)
  ·intro y0 y1 y2
   unfold semigroupref01_Valid.l0
   repeat' first
   | (with_reducible exact ih0 _ _ _)
   | (with_reducible exact ih1 _ _ _)
   | (with_reducible exact LeO.refl _)
   | (with_reducible exact LeO.none _)
   | (with_reducible refine LeO.ite ?_ ?_)
   | (with_reducible refine LeO.bind ?_ (fun _ => ?_))
   | exact ih0 _ _ _
   | exact ih1 _ _ _
   | exact LeO.none _
   | refine LeO.ite ?_ ?_
   | refine LeO.bind ?_ (fun _ => ?_)
theorem semigroupref01_Valid.mono : ∀ a0 a1 k, LeO (semigroupref01_Valid.f k a0 a1) (semigroupref01_Valid.f (k + 1) a0 a1) := by
 intro a0 a1 k
 obtain ⟨ih0, ih1⟩ := semigroupref01_Valid.mono_l k
 unfold semigroupref01_Valid.f
 repeat' first
   | (with_reducible exact ih0 _ _ _)
   | (with_reducible exact ih1 _ _ _)
   | (with_reducible exact LeO.refl _)
   | (with_reducible exact LeO.none _)
   | (with_reducible refine LeO.ite ?_ ?_)
   | (with_reducible refine LeO.bind ?_ (fun _ => ?_))
   | exact ih0 _ _ _
   | exact ih1 _ _ _
   | exact LeO.none _
   | refine LeO.ite ?_ ?_
   | refine LeO.bind ?_ (fun _ => ?_)
set_option maxHeartbeats 8000000 in
set_option maxRecDepth 100000 in
theorem semigroupref01_Valid.calls (k : Nat) (a0 : ByteArray) (a1 : Int) (r : Bool) (w : World) (h : semigroupref01_Valid.f k a0 a1 = some r) :
  Calls Try.prog 36 #[.string a0, .int .i64 a1] w fun e w' => e = .returned (.bool r) ∧ Drawn0 w w' := by
 have H : ((semigroupref01_MayLetters.f a1).bind fun t394 => (if t394 = true then (semigroupref01_Valid.j0 k a0 a1 (decide ((a0.size : Int) > 2048))) else (semigroupref01_Valid.j0 k a0 a1 true))) = some r := h
 clear h
 have HC3 := Aside0.mk H
 clear H
 go_enter Try.func36, Try.ntmps36
 go_upto_region 1 with (fail)
 go_cut [13] (fun v13 wc => ∃ (kq : Nat) (x13_2 : Bool), v13 = .bool x13_2 ∧ Aside0 (semigroupref01_Valid.j0 kq a0 a1 x13_2 = some r) ∧ Aside0 (kq ≤ k) ∧ Drawn0 w wc)
 case first =>
  have H := HC3.out
  clear HC3
  replace H := Option.bind_eq_some_iff.mp H
  obtain ⟨t394, A40, H⟩ := H
  replace H : (if t394 = true then (semigroupref01_Valid.j0 k a0 a1 (decide ((a0.size : Int) > 2048))) else (semigroupref01_Valid.j0 k a0 a1 true)) = some r := H
  have A4 := Aside0.mk A40
  clear A40
  by_cases c5 : t394 = true
  ·subst c5
   have H1 : (semigroupref01_Valid.j0 k a0 a1 (decide ((a0.size : Int) > 2048))) = some r := by rw [if_pos rfl] at H; exact H
   clear H
   have H := H1
   clear H1
   have H' := Aside0.mk H
   clear H
   go_wp2_with (first | ((with_reducible refine gate_callee (f := 43) rfl ?_); refine goesL_ (some 7) rfl rfl Try.func43 (by kernel_rfl) rfl #[.int .i64 a1] rfl (by (try simp only [List.map_toArray, List.map_cons, List.map_nil]); first | done | rfl | (simp only [List.length_drop, List.length_take]; rfl) | (simp only [Int.ofNat_lt, Int.ofNat_le]; rfl)) ?_; (with_reducible refine (semigroupref01_MayLetters.calls a1 true _ A4.out).mono ?_); rintro e w' ⟨rfl, ⟨nd, rfl⟩⟩; refine ⟨_, rfl, ?_⟩))
   go_meet
   case rel => exact ⟨_, (decide ((a0.size : Int) > 2048)), (by first | rfl | (simp; done) | (simp [*]; done)), H', ⟨by first | omega | exact Nat.le_refl _⟩, by repeat (first | exact Drawn0.refl _ | apply Drawn0.step)⟩
  ·replace c5 := Bool.eq_false_iff.mpr c5
   subst c5
   have H1 : (semigroupref01_Valid.j0 k a0 a1 true) = some r := by rw [if_neg (show ¬ (false = true) by decide)] at H; exact H
   clear H
   have H := H1
   clear H1
   have H' := Aside0.mk H
   clear H
   go_wp2_with (first | ((with_reducible refine gate_callee (f := 43) rfl ?_); refine goesL_ (some 7) rfl rfl Try.func43 (by kernel_rfl) rfl #[.int .i64 a1] rfl (by (try simp only [List.map_toArray, List.map_cons, List.map_nil]); first | done | rfl | (simp only [List.length_drop, List.length_take]; rfl) | (simp only [Int.ofNat_lt, Int.ofNat_le]; rfl)) ?_; (with_reducible refine (semigroupref01_MayLetters.calls a1 false _ A4.out).mono ?_); rintro e w' ⟨rfl, ⟨nd, rfl⟩⟩; refine ⟨_, rfl, ?_⟩))
   go_meet
   case rel => exact ⟨_, (true), (by first | rfl | (simp; done) | (simp [*]; done)), H', ⟨by first | omega | exact Nat.le_refl _⟩, by repeat (first | exact Drawn0.refl _ | apply Drawn0.step)⟩
 case rest =>
  clear HC3
  obtain ⟨kq, x13_2, rfl, HA, HJ2, ⟨mc2, rfl⟩⟩ := hcut
  cases kq with
  | zero => exact absurd HA.out (by simp [semigroupref01_Valid.j0])
  | succ kj2 =>
   have H := HA.out
   clear HA
   simp only [semigroupref01_Valid.j0] at H
   by_cases c6 : x13_2 = true
   ·subst c6
    have H1 : (some false) = some r := by rw [if_pos rfl] at H; exact H
    clear H
    have H := H1
    clear H1
    obtain rfl := Option.some.inj H
    go_wp2
    go_ret
    exact ⟨by first | rfl | (simp; done) | (simp [*]; done), by repeat (first | exact Drawn0.refl _ | apply Drawn0.step)⟩
   ·replace c6 := Bool.eq_false_iff.mpr c6
    subst c6
    have H1 : (semigroupref01_Valid.l0 kj2 a0 a1 0) = some r := by rw [if_neg (show ¬ (false = true) by decide)] at H; exact H
    clear H
    have H := H1
    clear H1
    have H' := Aside0.mk H
    clear H
    go_wp2
    go_loopg [5] kj2 (fun kq v5 w' => ∃ (x5_2 : Int), v5 = .int .i64 x5_2 ∧ Aside0 (semigroupref01_Valid.l0 kq a0 a1 x5_2 = some r) ∧ Aside0 (kq ≤ kj2) ∧ Drawn0 w w')
    case atStart => exact ⟨(0), (by first | rfl | (simp; done) | (simp [*]; done)), H', ⟨Nat.le_refl _⟩, by repeat (first | exact Drawn0.refl _ | apply Drawn0.step)⟩
    case round =>
     clear H'
     try clear c6
     obtain ⟨x5_2, rfl, HA, HK2, ⟨m2, rfl⟩⟩ := hrel
     cases gk with
     | zero => exact absurd HA.out (by simp [semigroupref01_Valid.l0])
     | succ k2 =>
      have H := HA.out
      clear HA
      simp only [semigroupref01_Valid.l0] at H
      by_cases c7 : x5_2 < (a0.size : Int)
      ·rw [if_pos c7] at H
       have c7b0 : decide (x5_2 < (a0.size : Int)) = true := decide_eq_true c7
       clear c7
       by_cases c8 : 0 ≤ x5_2
       ·rw [if_pos c8] at H
        have c8b0 : decide (0 ≤ x5_2) = true := decide_eq_true c8
        clear c8
        by_cases c10 : (bt a0 x5_2) < 97
        ·rw [if_pos c10] at H
         have c10b0 : decide ((bt a0 x5_2) < 97) = true := decide_eq_true c10
         clear c10
         obtain rfl := Option.some.inj H
         have p9 : 0 ≤ (x5_2 : Int) := of_decide_eq_true (by first | (with_reducible assumption) | assumption)
         have q9 : x5_2 < (a0.size : Int) := of_decide_eq_true (by first | (with_reducible assumption) | assumption)
         have hx9 := bt_at a0 x5_2
         replace p9 := eq_true p9
         replace q9 := eq_true q9
         go_wp2
         go_ret
         exact ⟨by first | rfl | (simp; done) | (simp [*]; done), by repeat (first | exact Drawn0.refl _ | apply Drawn0.step)⟩
        ·rw [if_neg c10] at H
         have c10b0 : decide ((bt a0 x5_2) < 97) = false := decide_eq_false c10
         clear c10
         by_cases c12 : (((bt a0 x5_2) - 97) % 256) ≥ a1
         ·rw [if_pos c12] at H
          have c12b0 : decide (a1 ≤ (((bt a0 x5_2) - 97) % 256)) = true := decide_eq_true c12
          clear c12
          obtain rfl := Option.some.inj H
          have p9 : 0 ≤ (x5_2 : Int) := of_decide_eq_true (by first | (with_reducible assumption) | assumption)
          have q9 : x5_2 < (a0.size : Int) := of_decide_eq_true (by first | (with_reducible assumption) | assumption)
          have hx9 := bt_at a0 x5_2
          replace p9 := eq_true p9
          replace q9 := eq_true q9
          have p11 : 0 ≤ (x5_2 : Int) := of_decide_eq_true (by first | (with_reducible assumption) | assumption)
          have q11 : x5_2 < (a0.size : Int) := of_decide_eq_true (by first | (with_reducible assumption) | assumption)
          have hx11 := bt_at a0 x5_2
          replace p11 := eq_true p11
          replace q11 := eq_true q11
          go_wp2
          go_ret
          exact ⟨by first | rfl | (simp; done) | (simp [*]; done), by repeat (first | exact Drawn0.refl _ | apply Drawn0.step)⟩
         ·rw [if_neg c12] at H
          have c12b0 : decide (a1 ≤ (((bt a0 x5_2) - 97) % 256)) = false := decide_eq_false c12
          clear c12
          have H' := Aside0.mk H
          clear H
          have p9 : 0 ≤ (x5_2 : Int) := of_decide_eq_true (by first | (with_reducible assumption) | assumption)
          have q9 : x5_2 < (a0.size : Int) := of_decide_eq_true (by first | (with_reducible assumption) | assumption)
          have hx9 := bt_at a0 x5_2
          replace p9 := eq_true p9
          replace q9 := eq_true q9
          have p11 : 0 ≤ (x5_2 : Int) := of_decide_eq_true (by first | (with_reducible assumption) | assumption)
          have q11 : x5_2 < (a0.size : Int) := of_decide_eq_true (by first | (with_reducible assumption) | assumption)
          have hx11 := bt_at a0 x5_2
          replace p11 := eq_true p11
          replace q11 := eq_true q11
          go_wp2
          (first | go_roundg k2 | ((simp only [add_plain] at *); go_roundg k2))
          case measure => have := HJ2.out; have := HK2.out; omega
          case rel => exact ⟨(wrap64 (x5_2 + 1)), (by first | rfl | (simp; done) | (simp [*]; done)), H', ⟨by have := HJ2.out; have := HK2.out; omega⟩, by repeat (first | exact Drawn0.refl _ | apply Drawn0.step)⟩
       ·rw [if_neg c8] at H
        exact absurd H (by simp)
      ·rw [if_neg c7] at H
       have c7b0 : decide (x5_2 < (a0.size : Int)) = false := decide_eq_false c7
       clear c7
       obtain rfl := Option.some.inj H
       go_wp2
       go_ret
       exact ⟨by first | rfl | (simp; done) | (simp [*]; done), by repeat (first | exact Drawn0.refl _ | apply Drawn0.step)⟩
end Go.Proofs.Ytjofkebiacaciaa.PAll
end
section
namespace Go.Proofs.Ytjofkebiacaciaa.PAll
open Go.RowKit Go.Proofs.YtjofkebiacaciaaW.PrintWords Go.Proofs.YtjofkebiacaciaaW.PrintLast Go.Proofs.YtjofkebiacaciaaW.PrintMore
attribute [local go_sem] max2_int min2_int max_two min_two max_three min_three max_four min_four
set_option linter.unusedVariables false
set_option linter.unusedSimpArgs false
mutual
def semigroupref04_shaped.j0 : Nat → Int → Int → Bool → Int → Int → List (S24) → Option (Bool)
 | 0, _, _, _, _, _, _ => none
 | k + 1, x1, x5, x6, x399000, x399001, x399002 => if x399000 = 1 then (semigroupref04_shaped.j1 k x1 x5 x6 x399000 (x399000 == 1) x399000 x399001 x399002) else (if x399000 = 2 then (semigroupref04_shaped.j1 k x1 x5 x6 x399000 (x399000 == 2) x399000 x399001 x399002) else (semigroupref04_shaped.j1 k x1 x5 x6 x399000 (x399000 == 3) x399000 x399001 x399002))
def semigroupref04_shaped.j2 : Nat → Int → Int → Bool → Int → Int → List (S24) → Option (Bool)
 | 0, _, _, _, _, _, _ => none
 | k + 1, x1, x5, x6, x399000, x399001, x399002 => if x399000 = 3 then (if x6 = true then (if x399001 ≥ 0 then (semigroupref04_shaped.j3 k x1 x5 (decide (x399001 < x1)) x399000 x399001 x399002) else (semigroupref04_shaped.j3 k x1 x5 false x399000 x399001 x399002)) else (semigroupref04_shaped.j3 k x1 x5 false x399000 x399001 x399002)) else (if x6 = true then (semigroupref04_shaped.j3 k x1 x5 (x399001 == 0) x399000 x399001 x399002) else (semigroupref04_shaped.j3 k x1 x5 false x399000 x399001 x399002))
def semigroupref04_shaped.j3 : Nat → Int → Int → Bool → Int → Int → List (S24) → Option (Bool)
 | 0, _, _, _, _, _, _ => none
 | k + 1, x1, x5, x6, x399000, x399001, x399002 => semigroupref04_shaped.l0 k x1 x5 x6 0 x399000 x399001 x399002
def semigroupref04_shaped.l0 : Nat → Int → Int → Bool → Int → Int → Int → List (S24) → Option (Bool)
 | 0, _, _, _, _, _, _, _ => none
 | k + 1, x1, x5, x6, x7, x399000, x399001, x399002 => if x7 < x5 then (if x6 = true then (if 0 ≤ x7 then (if x7 < (x399002.length : Int) then ((semigroupref04_shaped.f k ((rd_T24 x399002 x7).f0) ((rd_T24 x399002 x7).f1) ((rd_T24 x399002 x7).f2) x1).bind fun t400 => (semigroupref04_shaped.l0 k x1 x5 t400 (wrap64 (x7 + 1)) x399000 x399001 x399002)) else (none)) else (none)) else (some x6)) else (some x6)
def semigroupref04_shaped.j1 : Nat → Int → Int → Bool → Int → Bool → Int → Int → List (S24) → Option (Bool)
 | 0, _, _, _, _, _, _, _, _ => none
 | k + 1, x1, x5, x6, x20, x26, x399000, x399001, x399002 => if x26 = true then (semigroupref04_shaped.j2 k x1 x5 (x5 == 0) x399000 x399001 x399002) else (if x20 = 7 then (semigroupref04_shaped.j2 k x1 x5 (x5 == 1) x399000 x399001 x399002) else (if x20 = 8 then (semigroupref04_shaped.j2 k x1 x5 (x5 == 1) x399000 x399001 x399002) else (if x6 = true then (semigroupref04_shaped.j2 k x1 x5 (decide (x5 ≥ 2)) x399000 x399001 x399002) else (semigroupref04_shaped.j2 k x1 x5 false x399000 x399001 x399002))))
def semigroupref04_shaped.f : Nat → Int → Int → List (S24) → Int → Option (Bool)
 | 0, _, _, _, _ => none
 | k + 1, a0_0, a0_1, l0_2, a1 => if a0_0 ≥ 1 then (semigroupref04_shaped.j0 k a1 (l0_2.length : Int) (decide (a0_0 ≤ 8)) a0_0 a0_1 l0_2) else (semigroupref04_shaped.j0 k a1 (l0_2.length : Int) false a0_0 a0_1 l0_2)
end
theorem semigroupref04_shaped.mono_l : ∀ k, (∀ y0 y1 y2 y3, LeO (semigroupref04_shaped.f k y0 y1 y2 y3) (semigroupref04_shaped.f (k + 1) y0 y1 y2 y3)) ∧ (∀ y0 y1 y2 y3 y4 y5, LeO (semigroupref04_shaped.j0 k y0 y1 y2 y3 y4 y5) (semigroupref04_shaped.j0 (k + 1) y0 y1 y2 y3 y4 y5)) ∧ (∀ y0 y1 y2 y3 y4 y5, LeO (semigroupref04_shaped.j2 k y0 y1 y2 y3 y4 y5) (semigroupref04_shaped.j2 (k + 1) y0 y1 y2 y3 y4 y5)) ∧ (∀ y0 y1 y2 y3 y4 y5, LeO (semigroupref04_shaped.j3 k y0 y1 y2 y3 y4 y5) (semigroupref04_shaped.j3 (k + 1) y0 y1 y2 y3 y4 y5)) ∧ (∀ y0 y1 y2 y3 y4 y5 y6, LeO (semigroupref04_shaped.l0 k y0 y1 y2 y3 y4 y5 y6) (semigroupref04_shaped.l0 (k + 1) y0 y1 y2 y3 y4 y5 y6)) ∧ (∀ y0 y1 y2 y3 y4 y5 y6 y7, LeO (semigroupref04_shaped.j1 k y0 y1 y2 y3 y4 y5 y6 y7) (semigroupref04_shaped.j1 (k + 1) y0 y1 y2 y3 y4 y5 y6 y7))
 | 0 => ⟨fun _ _ _ _ r h => by simp [semigroupref04_shaped.f] at h, fun _ _ _ _ _ _ r h => by simp [semigroupref04_shaped.j0] at h, fun _ _ _ _ _ _ r h => by simp [semigroupref04_shaped.j2] at h, fun _ _ _ _ _ _ r h => by simp [semigroupref04_shaped.j3] at h, fun _ _ _ _ _ _ _ r h => by simp [semigroupref04_shaped.l0] at h, fun _ _ _ _ _ _ _ _ r h => by simp [semigroupref04_shaped.j1] at h⟩
 | k + 1 => by
  obtain ⟨ih0, ih1, ih2, ih3, ih4, ih5⟩ := semigroupref04_shaped.mono_l k
  refine ⟨?_, ?_, ?_, ?_, ?_, ?_⟩
  ·intro y0 y1 y2 y3
   unfold semigroupref04_shaped.f
   repeat' first
   | (with_reducible exact ih0 _ _ _ _)
   | (with_reducible exact ih1 _ _ _ _ _ _)
   | (with_reducible exact ih2 _ _ _ _ _ _)
   | (with_reducible exact ih3 _ _ _ _ _ _)
   | (with_reducible exact ih4 _ _ _ _ _ _ _)
   | (with_reducible exact ih5 _ _ _ _ _ _ _ _)
   | (with_reducible exact LeO.refl _)
   | (with_reducible exact LeO.none _)
   | (with_reducible refine LeO.ite ?_ ?_)
   | (with_reducible refine LeO.bind ?_ (fun _ => ?_))
   | exact ih0 _ _ _ _
   | exact ih1 _ _ _ _ _ _
   | exact ih2 _ _ _ _ _ _
   | exact ih3 _ _ _ _ _ _
   | exact ih4 _ _ _ _ _ _ _
   | exact ih5 _ _ _ _ _ _ _ _
   | exact LeO.none _
   | refine LeO.ite ?_ ?_
   | refine LeO.bind ?_ (fun _ => ?_)
  ·intro y0 y1 y2 y3 y4 y5
   unfold semigroupref04_shaped.j0
   repeat' first
   | (with_reducible exact ih0 _ _ _ _)
   | (with_reducible exact ih1 _ _ _ _ _ _)
   | (with_reducible exact ih2 _ _ _ _ _ _)
   | (with_reducible exact ih3 _ _ _ _ _ _)
   | (with_reducible exact ih4 _ _ _ _ _ _ _)
   | (with_reducible exact ih5 _ _ _ _ _ _ _ _)
   | (with_reducible exact LeO.refl _)
   | (with_reducible exact LeO.none _)
   | (with_reducible refine LeO.ite ?_ ?_)
   | (with_reducible refine LeO.bind ?_ (fun _ => ?_))
   | exact ih0 _ _ _ _
   | exact ih1 _ _ _ _ _ _
   | exact ih2 _ _ _ _ _ _
   | exact ih3 _ _ _ _ _ _
   | exact ih4 _ _ _ _ _ _ _
   | exact ih5 _ _ _ _ _ _ _ _
   | exact LeO.none _
   | refine LeO.ite ?_ ?_
   | refine LeO.bind ?_ (fun _ => ?_)
  ·intro y0 y1 y2 y3 y4 y5
   unfold semigroupref04_shaped.j2
   repeat' first
   | (with_reducible exact ih0 _ _ _ _)
   | (with_reducible exact ih1 _ _ _ _ _ _)
   | (with_reducible exact ih2 _ _ _ _ _ _)
   | (with_reducible exact ih3 _ _ _ _ _ _)
   | (with_reducible exact ih4 _ _ _ _ _ _ _)
   | (with_reducible exact ih5 _ _ _ _ _ _ _ _)
   | (with_reducible exact LeO.refl _)
   | (with_reducible exact LeO.none _)
   | (with_reducible refine LeO.ite ?_ ?_)
   | (with_reducible refine LeO.bind ?_ (fun _ => ?_))
   | exact ih0 _ _ _ _
   | exact ih1 _ _ _ _ _ _
   | exact ih2 _ _ _ _ _ _
   | exact ih3 _ _ _ _ _ _
   | exact ih4 _ _ _ _ _ _ _
   | exact ih5 _ _ _ _ _ _ _ _
   | exact LeO.none _
   | refine LeO.ite ?_ ?_
   | refine LeO.bind ?_ (fun _ => ?_)
  ·intro y0 y1 y2 y3 y4 y5
   unfold semigroupref04_shaped.j3
   repeat' first
   | (with_reducible exact ih0 _ _ _ _)
   | (with_reducible exact ih1 _ _ _ _ _ _)
   | (with_reducible exact ih2 _ _ _ _ _ _)
   | (with_reducible exact ih3 _ _ _ _ _ _)
   | (with_reducible exact ih4 _ _ _ _ _ _ _)
   | (with_reducible exact ih5 _ _ _ _ _ _ _ _)
   | (with_reducible exact LeO.refl _)
   | (with_reducible exact LeO.none _)
   | (with_reducible refine LeO.ite ?_ ?_)
   | (with_reducible refine LeO.bind ?_ (fun _ => ?_))
   | exact ih0 _ _ _ _
   | exact ih1 _ _ _ _ _ _
   | exact ih2 _ _ _ _ _ _
   | exact ih3 _ _ _ _ _ _
   | exact ih4 _ _ _ _ _ _ _
   | exact ih5 _ _ _ _ _ _ _ _
   | exact LeO.none _
   | refine LeO.ite ?_ ?_
   | refine LeO.bind ?_ (fun _ => ?_)
  ·intro y0 y1 y2 y3 y4 y5 y6
   unfold semigroupref04_shaped.l0
   repeat' first
   | (with_reducible exact ih0 _ _ _ _)
   | (with_reducible exact ih1 _ _ _ _ _ _)
   | (with_reducible exact ih2 _ _ _ _ _ _)
   | (with_reducible exact ih3 _ _ _ _ _ _)
   | (with_reducible exact ih4 _ _ _ _ _ _ _)
   | (with_reducible exact ih5 _ _ _ _ _ _ _ _)
   | (with_reducible exact LeO.refl _)
   | (with_reducible exact LeO.none _)
   | (with_reducible refine LeO.ite ?_ ?_)
   | (with_reducible refine LeO.bind ?_ (fun _ => ?_))
   | exact ih0 _ _ _ _
   | exact ih1 _ _ _ _ _ _
   | exact ih2 _ _ _ _ _ _
   | exact ih3 _ _ _ _ _ _
   | exact ih4 _ _ _ _ _ _ _
   | exact ih5 _ _ _ _ _ _ _ _
   | exact LeO.none _
   | refine LeO.ite ?_ ?_
   | refine LeO.bind ?_ (fun _ => ?_)
  ·intro y0 y1 y2 y3 y4 y5 y6 y7
   unfold semigroupref04_shaped.j1
   repeat' first
   | (with_reducible exact ih0 _ _ _ _)
   | (with_reducible exact ih1 _ _ _ _ _ _)
   | (with_reducible exact ih2 _ _ _ _ _ _)
   | (with_reducible exact ih3 _ _ _ _ _ _)
   | (with_reducible exact ih4 _ _ _ _ _ _ _)
   | (with_reducible exact ih5 _ _ _ _ _ _ _ _)
   | (with_reducible exact LeO.refl _)
   | (with_reducible exact LeO.none _)
   | (with_reducible refine LeO.ite ?_ ?_)
   | (with_reducible refine LeO.bind ?_ (fun _ => ?_))
   | exact ih0 _ _ _ _
   | exact ih1 _ _ _ _ _ _
   | exact ih2 _ _ _ _ _ _
   | exact ih3 _ _ _ _ _ _
   | exact ih4 _ _ _ _ _ _ _
   | exact ih5 _ _ _ _ _ _ _ _
   | exact LeO.none _
   | refine LeO.ite ?_ ?_
   | refine LeO.bind ?_ (fun _ => ?_)
theorem semigroupref04_shaped.mono : ∀ a0 a1 a2 a3 k, LeO (semigroupref04_shaped.f k a0 a1 a2 a3) (semigroupref04_shaped.f (k + 1) a0 a1 a2 a3) := by
 intro a0 a1 a2 a3 k
 obtain ⟨ih0, ih1, ih2, ih3, ih4, ih5⟩ := semigroupref04_shaped.mono_l k
 exact ih0 a0 a1 a2 a3
set_option maxHeartbeats 8000000 in
set_option maxRecDepth 100000 in
theorem semigroupref04_shaped.calls (k : Nat) : ∀ (a0_0 : Int) (a0_1 : Int) (A0_2 : Option Addr) (c0_2 : Nat) (l0_2 : List (S24)) (a1 : Int) (r : Bool) (w : World) (hr0_2 : Kd.C k24 w A0_2 l0_2.length l0_2) (hc0_2 : l0_2.length ≤ c0_2) (h : semigroupref04_shaped.f k a0_0 a0_1 l0_2 a1 = some r),
  Calls Try.prog 45 #[.agg #[.int .i64 a0_0, .int .i64 a0_1, .slice A0_2 l0_2.length c0_2], .int .i64 a1] w fun e w' => e = .returned (.bool r) ∧ Below w.heap.size w w' := by
 induction k using Nat.strongRecOn with
 | _ k ih =>
 intro a0_0 a0_1 A0_2 c0_2 l0_2 a1 r w hr0_2 hc0_2 h
 cases k with
 | zero => exact absurd h (by simp [semigroupref04_shaped.f])
 | succ k =>
 simp only [semigroupref04_shaped.f] at h
 have hu24 := Try.underlying24
 have HR0_2 := Aside0.mk hr0_2
 have HC0_2 := Aside0.mk hc0_2
 clear hr0_2 hc0_2
 have HB := Aside0.mk (Below.refl w.heap.size w)
 have H : (if a0_0 ≥ 1 then (semigroupref04_shaped.j0 k a1 (l0_2.length : Int) (decide (a0_0 ≤ 8)) a0_0 a0_1 l0_2) else (semigroupref04_shaped.j0 k a1 (l0_2.length : Int) false a0_0 a0_1 l0_2)) = some r := h
 clear h
 have HC3 := Aside0.mk H
 clear H
 go_enter Try.func45, Try.ntmps45
 go_upto_region 2 with (first | ((with_reducible refine gate_dst (N := 2) rfl ?_); refine box_event ?hg (N := 2) ?hd (cs := #[.int .i64 a0_0, .int .i64 a0_1, .slice A0_2 l0_2.length c0_2]) (t := 24) ?hr ?_; (case hd => rfl); (case hg => rfl); (case hr => first | (go_simp; done) | (go_simp; rfl)); intro gb398 hg w4 hbox hb; have n0_ := Aside0.mk (below_step (bB) hb); have n1_ := Aside0.mk (hbox); have n2_ := Aside0.mk ((by rw [hg]; exact (below_size (bB)) : w.heap.size ≤ gb398)); have n3_ := Aside0.mk ((by rw [hg]; exact (below_size (bB)) : w.heap.size ≤ gb398)); clear HB; have HB := n0_; have BK398 := n1_; have GW398 := n2_; have GE398 := n3_; clear n0_ n1_ n2_ n3_; clear hb hbox hg; have hcz5_0 : w4.cell? ⟨gb398, 0, none⟩ = some (.int .i64 a0_0) := (blk_cell BK398.out 0).trans rfl; have hcz5_1 : w4.cell? ⟨gb398, 1, none⟩ = some (.int .i64 a0_1) := (blk_cell BK398.out 1).trans rfl; have hcz5_2 : w4.cell? ⟨gb398, 2, none⟩ = some (.slice A0_2 l0_2.length c0_2) := (blk_cell BK398.out 2).trans rfl; have hfz5_0 := blk_frozen BK398.out 0; have hfz5_1 := blk_frozen BK398.out 1; have hfz5_2 := blk_frozen BK398.out 2))
 (try simp only [Act.put, List.setIfInBounds_toArray, List.set_cons_zero, List.set_cons_succ])
 go_cut [6] (fun v6 wc => ∃ (kq : Nat) (x6_2 : Bool), v6 = .bool x6_2 ∧ Aside0 (semigroupref04_shaped.j0 kq a1 (l0_2.length : Int) x6_2 a0_0 a0_1 l0_2 = some r) ∧ Aside0 (kq ≤ k) ∧ Aside0 (wc.heap[gb398]? = some (.cells #[.int .i64 a0_0, .int .i64 a0_1, (.slice A0_2 l0_2.length c0_2)] 24 (0, 0))) ∧ Aside0 (Below w.heap.size w wc))
 case first =>
  have H := HC3.out
  clear HC3
  by_cases c6 : a0_0 ≥ 1
  ·rw [if_pos c6] at H
   have c6b0 : decide (1 ≤ a0_0) = true := decide_eq_true c6
   clear c6
   (first | rw [c6b0] | (simp only [i64_w, i32_w]; rw [c6b0]) | skip)
   have H' := Aside0.mk H
   clear H
   have hcz7_0 : w4.cell? ⟨gb398, 0, none⟩ = some (.int .i64 a0_0) := (blk_cell BK398.out 0).trans rfl
   have hcz7_1 : w4.cell? ⟨gb398, 1, none⟩ = some (.int .i64 a0_1) := (blk_cell BK398.out 1).trans rfl
   have hcz7_2 : w4.cell? ⟨gb398, 2, none⟩ = some (.slice A0_2 l0_2.length c0_2) := (blk_cell BK398.out 2).trans rfl
   have hfz7_0 := blk_frozen BK398.out 0
   have hfz7_1 := blk_frozen BK398.out 1
   have hfz7_2 := blk_frozen BK398.out 2
   go_wp2
   go_meet
   case rel => exact ⟨_, (decide (a0_0 ≤ 8)), (by first | rfl | (simp; done) | (simp [*]; done)), H', ⟨by first | omega | exact Nat.le_refl _⟩, ⟨bK⟩, ⟨bB⟩⟩
  ·rw [if_neg c6] at H
   have c6b0 : decide (1 ≤ a0_0) = false := decide_eq_false c6
   clear c6
   (first | rw [c6b0] | (simp only [i64_w, i32_w]; rw [c6b0]) | skip)
   have H' := Aside0.mk H
   clear H
   have hcz8_0 : w4.cell? ⟨gb398, 0, none⟩ = some (.int .i64 a0_0) := (blk_cell BK398.out 0).trans rfl
   have hcz8_1 : w4.cell? ⟨gb398, 1, none⟩ = some (.int .i64 a0_1) := (blk_cell BK398.out 1).trans rfl
   have hcz8_2 : w4.cell? ⟨gb398, 2, none⟩ = some (.slice A0_2 l0_2.length c0_2) := (blk_cell BK398.out 2).trans rfl
   have hfz8_0 := blk_frozen BK398.out 0
   have hfz8_1 := blk_frozen BK398.out 1
   have hfz8_2 := blk_frozen BK398.out 2
   go_wp2
   go_meet
   case rel => exact ⟨_, (false), (by first | rfl | (simp; done) | (simp [*]; done)), H', ⟨by first | omega | exact Nat.le_refl _⟩, ⟨bK⟩, ⟨bB⟩⟩
 case rest =>
  clear HC3
  try clear hcz5_0
  try clear hcz5_1
  try clear hcz5_2
  try clear hfz5_0
  try clear hfz5_1
  try clear hfz5_2
  obtain ⟨kq, x6_2, rfl, HA, HJ2, BK398, HB⟩ := hcut
  cases kq with
  | zero => exact absurd HA.out (by simp [semigroupref04_shaped.j0])
  | succ kj2 =>
   have H := HA.out
   clear HA
   simp only [semigroupref04_shaped.j0] at H
   have HC9 := Aside0.mk H
   clear H
   have hcz10_0 : wc.cell? ⟨gb398, 0, none⟩ = some (.int .i64 a0_0) := (blk_cell BK398.out 0).trans rfl
   have hcz10_1 : wc.cell? ⟨gb398, 1, none⟩ = some (.int .i64 a0_1) := (blk_cell BK398.out 1).trans rfl
   have hcz10_2 : wc.cell? ⟨gb398, 2, none⟩ = some (.slice A0_2 l0_2.length c0_2) := (blk_cell BK398.out 2).trans rfl
   have hfz10_0 := blk_frozen BK398.out 0
   have hfz10_1 := blk_frozen BK398.out 1
   have hfz10_2 := blk_frozen BK398.out 2
   go_upto_block 0 with (fail)
   go_cut [6] (fun v6 wc => ∃ (kq : Nat) (x6_8 : Bool), v6 = .bool x6_8 ∧ Aside0 (semigroupref04_shaped.j2 kq a1 (l0_2.length : Int) x6_8 a0_0 a0_1 l0_2 = some r) ∧ Aside0 (kq ≤ kj2) ∧ Aside0 (wc.heap[gb398]? = some (.cells #[.int .i64 a0_0, .int .i64 a0_1, (.slice A0_2 l0_2.length c0_2)] 24 (0, 0))) ∧ Aside0 (Below w.heap.size w wc))
   case first =>
    have H := HC9.out
    clear HC9
    have HC11 := Aside0.mk H
    clear H
    go_upto_if 26 with (fail)
    go_cut [26] (fun v26 wc => ∃ (kq : Nat) (x26_10 : Bool), v26 = .bool x26_10 ∧ Aside0 (semigroupref04_shaped.j1 kq a1 (l0_2.length : Int) x6_2 a0_0 x26_10 a0_0 a0_1 l0_2 = some r) ∧ Aside0 (kq ≤ kj2) ∧ Aside0 (wc.heap[gb398]? = some (.cells #[.int .i64 a0_0, .int .i64 a0_1, (.slice A0_2 l0_2.length c0_2)] 24 (0, 0))) ∧ Aside0 (Below w.heap.size w wc))
    case first =>
     have H := HC11.out
     clear HC11
     by_cases c12 : a0_0 = 1
     ·rw [if_pos c12] at H
      have c12b0 : (a0_0 == 1) = true := beq_iff_eq.mpr c12
      have c12b1 : (a0_0 != 1) = false := bne_eq_false_iff_eq.mpr c12
      clear c12
      (first | rw [c12b0] | (simp only [i64_w, i32_w]; rw [c12b0]) | skip)
      have H' := Aside0.mk H
      clear H
      go_wp2
      go_meet
      case rel => exact ⟨_, ((a0_0 == 1)), (by first | rfl | (simp; done) | (simp [*]; done)), H', ⟨by have := HJ2.out; first | omega | exact Nat.le_refl _⟩, ⟨bK⟩, ⟨bB⟩⟩
     ·rw [if_neg c12] at H
      have c12b0 : (a0_0 == 1) = false := beq_eq_false_iff_ne.mpr c12
      have c12b1 : (a0_0 != 1) = true := bne_iff_ne.mpr c12
      (first | rw [c12b0] | (simp only [i64_w, i32_w]; rw [c12b0]) | skip)
      by_cases c13 : a0_0 = 2
      ·rw [if_pos c13] at H
       have c13b0 : (a0_0 == 2) = true := beq_iff_eq.mpr c13
       have c13b1 : (a0_0 != 2) = false := bne_eq_false_iff_eq.mpr c13
       clear c13
       have H' := Aside0.mk H
       clear H
       go_wp2
       go_meet
       case rel => exact ⟨_, ((a0_0 == 2)), (by first | rfl | (simp; done) | (simp [*]; done)), H', ⟨by have := HJ2.out; first | omega | exact Nat.le_refl _⟩, ⟨bK⟩, ⟨bB⟩⟩
      ·rw [if_neg c13] at H
       have c13b0 : (a0_0 == 2) = false := beq_eq_false_iff_ne.mpr c13
       have c13b1 : (a0_0 != 2) = true := bne_iff_ne.mpr c13
       have H' := Aside0.mk H
       clear H
       go_wp2
       go_meet
       case rel => exact ⟨_, ((a0_0 == 3)), (by first | rfl | (simp; done) | (simp [*]; done)), H', ⟨by have := HJ2.out; first | omega | exact Nat.le_refl _⟩, ⟨bK⟩, ⟨bB⟩⟩
    case rest =>
     clear HC11
     try clear hcz10_0
     try clear hcz10_1
     try clear hcz10_2
     try clear hcz5_0
     try clear hcz5_1
     try clear hcz5_2
     try clear hfz10_0
     try clear hfz10_1
     try clear hfz10_2
     try clear hfz5_0
     try clear hfz5_1
     try clear hfz5_2
     obtain ⟨kq, x26_10, rfl, HA, HJ10, BK398, HB⟩ := hcut
     cases kq with
     | zero => exact absurd HA.out (by simp [semigroupref04_shaped.j1])
     | succ kj10 =>
      have H := HA.out
      clear HA
      simp only [semigroupref04_shaped.j1] at H
      by_cases c14 : x26_10 = true
      ·subst c14
       have H1 : (semigroupref04_shaped.j2 kj10 a1 (l0_2.length : Int) ((l0_2.length : Int) == 0) a0_0 a0_1 l0_2) = some r := by rw [if_pos rfl] at H; exact H
       clear H
       have H := H1
       clear H1
       have H' := Aside0.mk H
       clear H
       go_wp2
       go_meet
       case rel => exact ⟨_, (((l0_2.length : Int) == 0)), (by first | rfl | (simp; done) | (simp [*]; done)), H', ⟨by have := HJ2.out; have := HJ10.out; first | omega | exact Nat.le_refl _⟩, ⟨bK⟩, ⟨bB⟩⟩
      ·replace c14 := Bool.eq_false_iff.mpr c14
       subst c14
       have H1 : (if a0_0 = 7 then (semigroupref04_shaped.j2 kj10 a1 (l0_2.length : Int) ((l0_2.length : Int) == 1) a0_0 a0_1 l0_2) else (if a0_0 = 8 then (semigroupref04_shaped.j2 kj10 a1 (l0_2.length : Int) ((l0_2.length : Int) == 1) a0_0 a0_1 l0_2) else (if x6_2 = true then (semigroupref04_shaped.j2 kj10 a1 (l0_2.length : Int) (decide ((l0_2.length : Int) ≥ 2)) a0_0 a0_1 l0_2) else (semigroupref04_shaped.j2 kj10 a1 (l0_2.length : Int) false a0_0 a0_1 l0_2)))) = some r := by rw [if_neg (show ¬ (false = true) by decide)] at H; exact H
       clear H
       have H := H1
       clear H1
       by_cases c15 : a0_0 = 7
       ·rw [if_pos c15] at H
        have c15b0 : (a0_0 == 7) = true := beq_iff_eq.mpr c15
        have c15b1 : (a0_0 != 7) = false := bne_eq_false_iff_eq.mpr c15
        clear c15
        have H' := Aside0.mk H
        clear H
        go_wp2
        go_meet
        case rel => exact ⟨_, (((l0_2.length : Int) == 1)), (by first | rfl | (simp; done) | (simp [*]; done)), H', ⟨by have := HJ2.out; have := HJ10.out; first | omega | exact Nat.le_refl _⟩, ⟨bK⟩, ⟨bB⟩⟩
       ·rw [if_neg c15] at H
        have c15b0 : (a0_0 == 7) = false := beq_eq_false_iff_ne.mpr c15
        have c15b1 : (a0_0 != 7) = true := bne_iff_ne.mpr c15
        by_cases c16 : a0_0 = 8
        ·rw [if_pos c16] at H
         have c16b0 : (a0_0 == 8) = true := beq_iff_eq.mpr c16
         have c16b1 : (a0_0 != 8) = false := bne_eq_false_iff_eq.mpr c16
         clear c16
         have H' := Aside0.mk H
         clear H
         go_wp2
         go_meet
         case rel => exact ⟨_, (((l0_2.length : Int) == 1)), (by first | rfl | (simp; done) | (simp [*]; done)), H', ⟨by have := HJ2.out; have := HJ10.out; first | omega | exact Nat.le_refl _⟩, ⟨bK⟩, ⟨bB⟩⟩
        ·rw [if_neg c16] at H
         have c16b0 : (a0_0 == 8) = false := beq_eq_false_iff_ne.mpr c16
         have c16b1 : (a0_0 != 8) = true := bne_iff_ne.mpr c16
         by_cases c17 : x6_2 = true
         ·subst c17
          have H1 : (semigroupref04_shaped.j2 kj10 a1 (l0_2.length : Int) (decide ((l0_2.length : Int) ≥ 2)) a0_0 a0_1 l0_2) = some r := by rw [if_pos rfl] at H; exact H
          clear H
          have H := H1
          clear H1
          have H' := Aside0.mk H
          clear H
          go_wp2
          go_meet
          case rel => exact ⟨_, (decide ((l0_2.length : Int) ≥ 2)), (by first | rfl | (simp; done) | (simp [*]; done)), H', ⟨by have := HJ2.out; have := HJ10.out; first | omega | exact Nat.le_refl _⟩, ⟨bK⟩, ⟨bB⟩⟩
         ·replace c17 := Bool.eq_false_iff.mpr c17
          subst c17
          have H1 : (semigroupref04_shaped.j2 kj10 a1 (l0_2.length : Int) false a0_0 a0_1 l0_2) = some r := by rw [if_neg (show ¬ (false = true) by decide)] at H; exact H
          clear H
          have H := H1
          clear H1
          have H' := Aside0.mk H
          clear H
          go_wp2
          go_meet
          case rel => exact ⟨_, (false), (by first | rfl | (simp; done) | (simp [*]; done)), H', ⟨by have := HJ2.out; have := HJ10.out; first | omega | exact Nat.le_refl _⟩, ⟨bK⟩, ⟨bB⟩⟩
   case rest =>
    clear HC9
    try clear hcz10_0
    try clear hcz10_1
    try clear hcz10_2
    try clear hcz5_0
    try clear hcz5_1
    try clear hcz5_2
    try clear hfz10_0
    try clear hfz10_1
    try clear hfz10_2
    try clear hfz5_0
    try clear hfz5_1
    try clear hfz5_2
    obtain ⟨kq, x6_8, rfl, HA, HJ8, BK398, HB⟩ := hcut
    cases kq with
    | zero => exact absurd HA.out (by simp [semigroupref04_shaped.j2])
    | succ kj8 =>
     have H := HA.out
     clear HA
     simp only [semigroupref04_shaped.j2] at H
     have HC18 := Aside0.mk H
     clear H
     have hcz19_0 : wc.cell? ⟨gb398, 0, none⟩ = some (.int .i64 a0_0) := (blk_cell BK398.out 0).trans rfl
     have hcz19_1 : wc.cell? ⟨gb398, 1, none⟩ = some (.int .i64 a0_1) := (blk_cell BK398.out 1).trans rfl
     have hcz19_2 : wc.cell? ⟨gb398, 2, none⟩ = some (.slice A0_2 l0_2.length c0_2) := (blk_cell BK398.out 2).trans rfl
     have hfz19_0 := blk_frozen BK398.out 0
     have hfz19_1 := blk_frozen BK398.out 1
     have hfz19_2 := blk_frozen BK398.out 2
     go_upto_if 39 with (fail)
     go_cut [6] (fun v6 wc => ∃ (kq : Nat) (x6_17 : Bool), v6 = .bool x6_17 ∧ Aside0 (semigroupref04_shaped.j3 kq a1 (l0_2.length : Int) x6_17 a0_0 a0_1 l0_2 = some r) ∧ Aside0 (kq ≤ kj8) ∧ Aside0 (wc.heap[gb398]? = some (.cells #[.int .i64 a0_0, .int .i64 a0_1, (.slice A0_2 l0_2.length c0_2)] 24 (0, 0))) ∧ Aside0 (Below w.heap.size w wc))
     case first =>
      have H := HC18.out
      clear HC18
      by_cases c20 : a0_0 = 3
      ·rw [if_pos c20] at H
       have c20b0 : (a0_0 == 3) = true := beq_iff_eq.mpr c20
       have c20b1 : (a0_0 != 3) = false := bne_eq_false_iff_eq.mpr c20
       clear c20
       (first | rw [c20b0] | (simp only [i64_w, i32_w]; rw [c20b0]) | skip)
       by_cases c21 : x6_8 = true
       ·subst c21
        have H1 : (if a0_1 ≥ 0 then (semigroupref04_shaped.j3 kj8 a1 (l0_2.length : Int) (decide (a0_1 < a1)) a0_0 a0_1 l0_2) else (semigroupref04_shaped.j3 kj8 a1 (l0_2.length : Int) false a0_0 a0_1 l0_2)) = some r := by rw [if_pos rfl] at H; exact H
        clear H
        have H := H1
        clear H1
        by_cases c22 : a0_1 ≥ 0
        ·rw [if_pos c22] at H
         have c22b0 : decide (0 ≤ a0_1) = true := decide_eq_true c22
         clear c22
         have H' := Aside0.mk H
         clear H
         have hcz23_0 : wc.cell? ⟨gb398, 0, none⟩ = some (.int .i64 a0_0) := (blk_cell BK398.out 0).trans rfl
         have hcz23_1 : wc.cell? ⟨gb398, 1, none⟩ = some (.int .i64 a0_1) := (blk_cell BK398.out 1).trans rfl
         have hcz23_2 : wc.cell? ⟨gb398, 2, none⟩ = some (.slice A0_2 l0_2.length c0_2) := (blk_cell BK398.out 2).trans rfl
         have hfz23_0 := blk_frozen BK398.out 0
         have hfz23_1 := blk_frozen BK398.out 1
         have hfz23_2 := blk_frozen BK398.out 2
         go_wp2
         go_meet
         case rel => exact ⟨_, (decide (a0_1 < a1)), (by first | rfl | (simp; done) | (simp [*]; done)), H', ⟨by have := HJ2.out; have := HJ8.out; first | omega | exact Nat.le_refl _⟩, ⟨bK⟩, ⟨bB⟩⟩
        ·rw [if_neg c22] at H
         have c22b0 : decide (0 ≤ a0_1) = false := decide_eq_false c22
         clear c22
         have H' := Aside0.mk H
         clear H
         have hcz24_0 : wc.cell? ⟨gb398, 0, none⟩ = some (.int .i64 a0_0) := (blk_cell BK398.out 0).trans rfl
         have hcz24_1 : wc.cell? ⟨gb398, 1, none⟩ = some (.int .i64 a0_1) := (blk_cell BK398.out 1).trans rfl
         have hcz24_2 : wc.cell? ⟨gb398, 2, none⟩ = some (.slice A0_2 l0_2.length c0_2) := (blk_cell BK398.out 2).trans rfl
         have hfz24_0 := blk_frozen BK398.out 0
         have hfz24_1 := blk_frozen BK398.out 1
         have hfz24_2 := blk_frozen BK398.out 2
         go_wp2
         go_meet
         case rel => exact ⟨_, (false), (by first | rfl | (simp; done) | (simp [*]; done)), H', ⟨by have := HJ2.out; have := HJ8.out; first | omega | exact Nat.le_refl _⟩, ⟨bK⟩, ⟨bB⟩⟩
       ·replace c21 := Bool.eq_false_iff.mpr c21
        subst c21
        have H1 : (semigroupref04_shaped.j3 kj8 a1 (l0_2.length : Int) false a0_0 a0_1 l0_2) = some r := by rw [if_neg (show ¬ (false = true) by decide)] at H; exact H
        clear H
        have H := H1
        clear H1
        have H' := Aside0.mk H
        clear H
        go_wp2
        go_meet
        case rel => exact ⟨_, (false), (by first | rfl | (simp; done) | (simp [*]; done)), H', ⟨by have := HJ2.out; have := HJ8.out; first | omega | exact Nat.le_refl _⟩, ⟨bK⟩, ⟨bB⟩⟩
      ·rw [if_neg c20] at H
       have c20b0 : (a0_0 == 3) = false := beq_eq_false_iff_ne.mpr c20
       have c20b1 : (a0_0 != 3) = true := bne_iff_ne.mpr c20
       (first | rw [c20b0] | (simp only [i64_w, i32_w]; rw [c20b0]) | skip)
       by_cases c25 : x6_8 = true
       ·subst c25
        have H1 : (semigroupref04_shaped.j3 kj8 a1 (l0_2.length : Int) (a0_1 == 0) a0_0 a0_1 l0_2) = some r := by rw [if_pos rfl] at H; exact H
        clear H
        have H := H1
        clear H1
        have H' := Aside0.mk H
        clear H
        have hcz26_0 : wc.cell? ⟨gb398, 0, none⟩ = some (.int .i64 a0_0) := (blk_cell BK398.out 0).trans rfl
        have hcz26_1 : wc.cell? ⟨gb398, 1, none⟩ = some (.int .i64 a0_1) := (blk_cell BK398.out 1).trans rfl
        have hcz26_2 : wc.cell? ⟨gb398, 2, none⟩ = some (.slice A0_2 l0_2.length c0_2) := (blk_cell BK398.out 2).trans rfl
        have hfz26_0 := blk_frozen BK398.out 0
        have hfz26_1 := blk_frozen BK398.out 1
        have hfz26_2 := blk_frozen BK398.out 2
        go_wp2
        go_meet
        case rel => exact ⟨_, ((a0_1 == 0)), (by first | rfl | (simp; done) | (simp [*]; done)), H', ⟨by have := HJ2.out; have := HJ8.out; first | omega | exact Nat.le_refl _⟩, ⟨bK⟩, ⟨bB⟩⟩
       ·replace c25 := Bool.eq_false_iff.mpr c25
        subst c25
        have H1 : (semigroupref04_shaped.j3 kj8 a1 (l0_2.length : Int) false a0_0 a0_1 l0_2) = some r := by rw [if_neg (show ¬ (false = true) by decide)] at H; exact H
        clear H
        have H := H1
        clear H1
        have H' := Aside0.mk H
        clear H
        go_wp2
        go_meet
        case rel => exact ⟨_, (false), (by first | rfl | (simp; done) | (simp [*]; done)), H', ⟨by have := HJ2.out; have := HJ8.out; first | omega | exact Nat.le_refl _⟩, ⟨bK⟩, ⟨bB⟩⟩
     case rest =>
      clear HC18
      try clear hcz10_0
      try clear hcz10_1
      try clear hcz10_2
      try clear hcz19_0
      try clear hcz19_1
      try clear hcz19_2
      try clear hcz5_0
      try clear hcz5_1
      try clear hcz5_2
      try clear hfz10_0
      try clear hfz10_1
      try clear hfz10_2
      try clear hfz19_0
      try clear hfz19_1
      try clear hfz19_2
      try clear hfz5_0
      try clear hfz5_1
      try clear hfz5_2
      obtain ⟨kq, x6_17, rfl, HA, HJ17, BK398, HB⟩ := hcut
      cases kq with
      | zero => exact absurd HA.out (by simp [semigroupref04_shaped.j3])
      | succ kj17 =>
       have H := HA.out
       clear HA
       simp only [semigroupref04_shaped.j3] at H
       have H' := Aside0.mk H
       clear H
       go_wp2
       go_loopg [6, 7] kj17 (fun kq v6 v7 w' => ∃ (x6_4 : Bool) (x7_4 : Int), v6 = .bool x6_4 ∧ v7 = .int .i64 x7_4 ∧ Aside0 (semigroupref04_shaped.l0 kq a1 (l0_2.length : Int) x6_4 x7_4 a0_0 a0_1 l0_2 = some r) ∧ Aside0 (kq ≤ kj17) ∧ Aside0 (w'.heap[gb398]? = some (.cells #[.int .i64 a0_0, .int .i64 a0_1, (.slice A0_2 l0_2.length c0_2)] 24 (0, 0))) ∧ Aside0 (Below w.heap.size w w'))
       case atStart => exact ⟨(x6_17), (0), (by first | rfl | (simp; done) | (simp [*]; done)), (by first | rfl | (simp; done) | (simp [*]; done)), H', ⟨Nat.le_refl _⟩, ⟨bK⟩, ⟨bB⟩⟩
       case round =>
        clear H'
        try clear hcz10_0
        try clear hcz10_1
        try clear hcz10_2
        try clear hcz19_0
        try clear hcz19_1
        try clear hcz19_2
        try clear hcz5_0
        try clear hcz5_1
        try clear hcz5_2
        try clear hfz10_0
        try clear hfz10_1
        try clear hfz10_2
        try clear hfz19_0
        try clear hfz19_1
        try clear hfz19_2
        try clear hfz5_0
        try clear hfz5_1
        try clear hfz5_2
        obtain ⟨x6_4, x7_4, rfl, rfl, HA, HK4, BK398, HB⟩ := hrel
        cases gk with
        | zero => exact absurd HA.out (by simp [semigroupref04_shaped.l0])
        | succ k4 =>
         have H := HA.out
         clear HA
         simp only [semigroupref04_shaped.l0] at H
         by_cases c27 : x7_4 < (l0_2.length : Int)
         ·rw [if_pos c27] at H
          have c27b0 : decide (x7_4 < (l0_2.length : Int)) = true := decide_eq_true c27
          clear c27
          by_cases c28 : x6_4 = true
          ·subst c28
           have H1 : (if 0 ≤ x7_4 then (if x7_4 < (l0_2.length : Int) then ((semigroupref04_shaped.f k4 ((rd_T24 l0_2 x7_4).f0) ((rd_T24 l0_2 x7_4).f1) ((rd_T24 l0_2 x7_4).f2) a1).bind fun t400 => (semigroupref04_shaped.l0 k4 a1 (l0_2.length : Int) t400 (wrap64 (x7_4 + 1)) a0_0 a0_1 l0_2)) else (none)) else (none)) = some r := by rw [if_pos rfl] at H; exact H
           clear H
           have H := H1
           clear H1
           by_cases c29 : 0 ≤ x7_4
           ·rw [if_pos c29] at H
            have c29b0 : decide (0 ≤ x7_4) = true := decide_eq_true c29
            clear c29
            by_cases c30 : x7_4 < (l0_2.length : Int)
            ·rw [if_pos c30] at H
             have c30b0 : decide (x7_4 < (l0_2.length : Int)) = true := decide_eq_true c30
             clear c30
             replace H := Option.bind_eq_some_iff.mp H
             obtain ⟨t400, A310, H⟩ := H
             replace H : (semigroupref04_shaped.l0 k4 a1 (l0_2.length : Int) t400 (wrap64 (x7_4 + 1)) a0_0 a0_1 l0_2) = some r := H
             have A31 := Aside0.mk A310
             clear A310
             have H' := Aside0.mk H
             clear H
             have hcz32_0 : wr.cell? ⟨gb398, 0, none⟩ = some (.int .i64 a0_0) := (blk_cell BK398.out 0).trans rfl
             have hcz32_1 : wr.cell? ⟨gb398, 1, none⟩ = some (.int .i64 a0_1) := (blk_cell BK398.out 1).trans rfl
             have hcz32_2 : wr.cell? ⟨gb398, 2, none⟩ = some (.slice A0_2 l0_2.length c0_2) := (blk_cell BK398.out 2).trans rfl
             have hfz32_0 := blk_frozen BK398.out 0
             have hfz32_1 := blk_frozen BK398.out 1
             have hfz32_2 := blk_frozen BK398.out 2
             have p399 : 0 ≤ (x7_4 : Int) := of_decide_eq_true (by first | (with_reducible assumption) | assumption)
             have q399 : x7_4 < (l0_2.length : Int) := of_decide_eq_true (by first | (with_reducible assumption) | assumption)
             obtain ⟨ad399, A399_2, c399_2, e399, hx399_0, hx399_1, hx399_2, hl399_2, hi399_2⟩ := at_T24 HR0_2.out x7_4 p399 q399
             cases e399
             replace hx399_0 := (HB.out.cell (World.block_lt_of_cell? w _ hx399_0)).trans hx399_0
             replace hx399_1 := (HB.out.cell (World.block_lt_of_cell? w _ hx399_1)).trans hx399_1
             replace hx399_2 := (HB.out.cell (World.block_lt_of_cell? w _ hx399_2)).trans hx399_2
             have HR399_2 := Aside0.mk hi399_2
             have HC399_2 := Aside0.mk hl399_2
             clear hi399_2 hl399_2
             replace p399 := eq_true p399
             replace q399 := eq_true q399
             go_wp2_with (first | ((with_reducible refine gate_callee (f := 45) rfl ?_); refine goesL_ (some 72) rfl rfl Try.func45 (by kernel_rfl) rfl #[.agg #[.int .i64 ((rd_T24 l0_2 x7_4).f0), .int .i64 ((rd_T24 l0_2 x7_4).f1), .slice A399_2 ((rd_T24 l0_2 x7_4).f2).length c399_2], .int .i64 a1] rfl (by (try simp only [List.map_toArray, List.map_cons, List.map_nil]); first | done | rfl | (simp only [List.length_drop, List.length_take]; rfl) | (simp only [Int.ofNat_lt, Int.ofNat_le]; rfl)) ?_; (with_reducible refine (ih k4 (by have := HJ2.out; have := HJ8.out; have := HJ17.out; have := HK4.out; omega) ((rd_T24 l0_2 x7_4).f0) ((rd_T24 l0_2 x7_4).f1) _ _ ((rd_T24 l0_2 x7_4).f2) a1 t400 _ ?side1 ?side2 A31.out).mono ?_); (case side1 => repeat (first | exact (Kd.C_below HR399_2.out HB.out) | (with_reducible refine Kd.C_alloc ?_ _) | (with_reducible refine Kd.C_drewN ?_ _) | (with_reducible refine Kd.C_drew ?_))); (case side2 => exact HC399_2.out); rintro e w33 ⟨rfl, hb⟩; refine ⟨_, rfl, ?_⟩; have n0_ := Aside0.mk (blk_below (g := gb398) (o := .cells #[.int .i64 a0_0, .int .i64 a0_1, .slice (some ad399) l0_2.length c0_2] 24 (0, 0)) (bK) hb); have n1_ := Aside0.mk (below_step (bB) hb); clear BK398; clear HB; have BK398 := n0_; have HB := n1_; clear n0_ n1_; (try clear hb); (try clear hb2); (try clear hk); (try clear hi)))
             (first | go_roundg k4 | ((simp only [add_plain] at *); go_roundg k4))
             case measure => have := HJ2.out; have := HJ8.out; have := HJ17.out; have := HK4.out; omega
             case rel => exact ⟨(t400), (wrap64 (x7_4 + 1)), (by first | rfl | (simp; done) | (simp [*]; done)), (by first | rfl | (simp; done) | (simp [*]; done)), H', ⟨by have := HJ2.out; have := HJ8.out; have := HJ17.out; have := HK4.out; omega⟩, ⟨bK⟩, ⟨bB⟩⟩
            ·rw [if_neg c30] at H
             exact absurd H (by simp)
           ·rw [if_neg c29] at H
            exact absurd H (by simp)
          ·replace c28 := Bool.eq_false_iff.mpr c28
           subst c28
           have H1 : (some false) = some r := by rw [if_neg (show ¬ (false = true) by decide)] at H; exact H
           clear H
           have H := H1
           clear H1
           obtain rfl := Option.some.inj H
           go_wp2
           go_ret
           exact ⟨by first | rfl | (simp [errW_none, errW_some] <;> rfl) | (simp [*, errW_none, errW_some] <;> rfl), bB⟩
         ·rw [if_neg c27] at H
          have c27b0 : decide (x7_4 < (l0_2.length : Int)) = false := decide_eq_false c27
          clear c27
          obtain rfl := Option.some.inj H
          go_wp2
          go_ret
          exact ⟨by first | rfl | (simp [errW_none, errW_some] <;> rfl) | (simp [*, errW_none, errW_some] <;> rfl), bB⟩
end Go.Proofs.Ytjofkebiacaciaa.PAll
end
section
namespace Go.Proofs.Ytjofkebiacaciaa.PAll
open Go.RowKit Go.Proofs.YtjofkebiacaciaaW.PrintWords Go.Proofs.YtjofkebiacaciaaW.PrintLast Go.Proofs.YtjofkebiacaciaaW.PrintMore
attribute [local go_sem] max2_int min2_int max_two min_two max_three min_three max_four min_four
set_option linter.unusedVariables false
set_option linter.unusedSimpArgs false
def semigroupref04_Validate.f (k : Nat) (a0_0 : Int) (a0_1 : Int) (l0_2 : List (S24)) (a1 : Int) : Option (Int) := (semigroupref01_MayLetters.f a1).bind fun t402 => (if t402 = true then ((semigroupref04_Within.f k a0_0 a0_1 l0_2).bind fun t403 => (if t403 = true then ((semigroupref04_shaped.f k a0_0 a0_1 l0_2 a1).bind fun t404 => (if t404 = true then (some 0) else (some 4))) else (some 3))) else (some 1))
theorem semigroupref04_Validate.mono : ∀ a0 a1 a2 a3 k, LeO (semigroupref04_Validate.f k a0 a1 a2 a3) (semigroupref04_Validate.f (k + 1) a0 a1 a2 a3) := by
 intro a0 a1 a2 a3 k
 unfold semigroupref04_Validate.f
 repeat' first
   | (with_reducible exact semigroupref04_Within.mono _ _ _ _)
   | (with_reducible exact semigroupref04_shaped.mono _ _ _ _ _)
   | (with_reducible exact LeO.refl _)
   | (with_reducible exact LeO.none _)
   | (with_reducible refine LeO.ite ?_ ?_)
   | (with_reducible refine LeO.bind ?_ (fun _ => ?_))
   | exact semigroupref04_Within.mono _ _ _ _
   | exact semigroupref04_shaped.mono _ _ _ _ _
   | exact LeO.none _
   | refine LeO.ite ?_ ?_
   | refine LeO.bind ?_ (fun _ => ?_)
set_option maxHeartbeats 8000000 in
set_option maxRecDepth 100000 in
theorem semigroupref04_Validate.calls (k : Nat) (a0_0 : Int) (a0_1 : Int) (A0_2 : Option Addr) (c0_2 : Nat) (l0_2 : List (S24)) (a1 : Int) (r : Int) (w : World) (hr0_2 : Kd.C k24 w A0_2 l0_2.length l0_2) (hc0_2 : l0_2.length ≤ c0_2) (h : semigroupref04_Validate.f k a0_0 a0_1 l0_2 a1 = some r) :
  Calls Try.prog 16 #[.agg #[.int .i64 a0_0, .int .i64 a0_1, .slice A0_2 l0_2.length c0_2], .int .i64 a1] w fun e w' => e = .returned (.int .i64 r) ∧ Below w.heap.size w w' := by
 have hu24 := Try.underlying24
 have HR0_2 := Aside0.mk hr0_2
 have HC0_2 := Aside0.mk hc0_2
 clear hr0_2 hc0_2
 have HB := Aside0.mk (Below.refl w.heap.size w)
 have H : ((semigroupref01_MayLetters.f a1).bind fun t402 => (if t402 = true then ((semigroupref04_Within.f k a0_0 a0_1 l0_2).bind fun t403 => (if t403 = true then ((semigroupref04_shaped.f k a0_0 a0_1 l0_2 a1).bind fun t404 => (if t404 = true then (some 0) else (some 4))) else (some 3))) else (some 1))) = some r := h
 clear h
 replace H := Option.bind_eq_some_iff.mp H
 obtain ⟨t402, A30, H⟩ := H
 replace H : (if t402 = true then ((semigroupref04_Within.f k a0_0 a0_1 l0_2).bind fun t403 => (if t403 = true then ((semigroupref04_shaped.f k a0_0 a0_1 l0_2 a1).bind fun t404 => (if t404 = true then (some 0) else (some 4))) else (some 3))) else (some 1)) = some r := H
 have A3 := Aside0.mk A30
 clear A30
 by_cases c4 : t402 = true
 ·subst c4
  have H1 : ((semigroupref04_Within.f k a0_0 a0_1 l0_2).bind fun t403 => (if t403 = true then ((semigroupref04_shaped.f k a0_0 a0_1 l0_2 a1).bind fun t404 => (if t404 = true then (some 0) else (some 4))) else (some 3))) = some r := by rw [if_pos rfl] at H; exact H
  clear H
  have H := H1
  clear H1
  replace H := Option.bind_eq_some_iff.mp H
  obtain ⟨t403, A50, H⟩ := H
  replace H : (if t403 = true then ((semigroupref04_shaped.f k a0_0 a0_1 l0_2 a1).bind fun t404 => (if t404 = true then (some 0) else (some 4))) else (some 3)) = some r := H
  have A5 := Aside0.mk A50
  clear A50
  by_cases c6 : t403 = true
  ·subst c6
   have H1 : ((semigroupref04_shaped.f k a0_0 a0_1 l0_2 a1).bind fun t404 => (if t404 = true then (some 0) else (some 4))) = some r := by rw [if_pos rfl] at H; exact H
   clear H
   have H := H1
   clear H1
   replace H := Option.bind_eq_some_iff.mp H
   obtain ⟨t404, A70, H⟩ := H
   replace H : (if t404 = true then (some 0) else (some 4)) = some r := H
   have A7 := Aside0.mk A70
   clear A70
   by_cases c8 : t404 = true
   ·subst c8
    have H1 : (some 0) = some r := by rw [if_pos rfl] at H; exact H
    clear H
    have H := H1
    clear H1
    obtain rfl := Option.some.inj H
    go_enter Try.func16, Try.ntmps16
    go_wp2_with (first | ((with_reducible refine gate_dst (N := 2) rfl ?_); refine box_event ?hg (N := 2) ?hd (cs := #[.int .i64 a0_0, .int .i64 a0_1, .slice A0_2 l0_2.length c0_2]) (t := 24) ?hr ?_; (case hd => rfl); (case hg => rfl); (case hr => first | (go_simp; done) | (go_simp; rfl)); intro gb401 hg w9 hbox hb; have n0_ := Aside0.mk (below_step (bB) hb); have n1_ := Aside0.mk (hbox); have n2_ := Aside0.mk ((by rw [hg]; exact (below_size (bB)) : w.heap.size ≤ gb401)); have n3_ := Aside0.mk ((by rw [hg]; exact (below_size (bB)) : w.heap.size ≤ gb401)); clear HB; have HB := n0_; have BK401 := n1_; have GW401 := n2_; have GE401 := n3_; clear n0_ n1_ n2_ n3_; clear hb hbox hg) | ((with_reducible refine gate_callee (f := 43) rfl ?_); refine goesL_ (some 7) rfl rfl Try.func43 (by kernel_rfl) rfl #[.int .i64 a1] rfl (by (try simp only [List.map_toArray, List.map_cons, List.map_nil]); first | done | rfl | (simp only [List.length_drop, List.length_take]; rfl) | (simp only [Int.ofNat_lt, Int.ofNat_le]; rfl)) ?_; (with_reducible refine (semigroupref01_MayLetters.calls a1 true _ A3.out).mono ?_); rintro e w' ⟨rfl, ⟨nd, rfl⟩⟩; refine ⟨_, rfl, ?_⟩; have hcz10_0 : w9.cell? ⟨gb401, 0, none⟩ = some (.int .i64 a0_0) := (blk_cell BK401.out 0).trans rfl; have hcz10_1 : w9.cell? ⟨gb401, 1, none⟩ = some (.int .i64 a0_1) := (blk_cell BK401.out 1).trans rfl; have hcz10_2 : w9.cell? ⟨gb401, 2, none⟩ = some (.slice A0_2 l0_2.length c0_2) := (blk_cell BK401.out 2).trans rfl; have hfz10_0 := blk_frozen BK401.out 0; have hfz10_1 := blk_frozen BK401.out 1; have hfz10_2 := blk_frozen BK401.out 2) | ((with_reducible refine gate_callee (f := 44) rfl ?_); refine goesL_ (some 11) rfl rfl Try.func44 (by kernel_rfl) rfl #[.agg #[.int .i64 a0_0, .int .i64 a0_1, .slice A0_2 l0_2.length c0_2]] rfl (by (try simp only [List.map_toArray, List.map_cons, List.map_nil]); first | done | rfl | (simp only [List.length_drop, List.length_take]; rfl) | (simp only [Int.ofNat_lt, Int.ofNat_le]; rfl)) ?_; (with_reducible refine (semigroupref04_Within.calls k a0_0 a0_1 _ _ l0_2 true _ ?side1 ?side2 A5.out).mono ?_); (case side1 => repeat (first | exact (Kd.C_below HR0_2.out (bB)) | (with_reducible refine Kd.C_alloc ?_ _) | (with_reducible refine Kd.C_drewN ?_ _) | (with_reducible refine Kd.C_drew ?_))); (case side2 => exact HC0_2.out); rintro e w11 ⟨rfl, hb⟩; refine ⟨_, rfl, ?_⟩; have n0_ := Aside0.mk (blk_below (g := gb401) (o := .cells #[.int .i64 a0_0, .int .i64 a0_1, .slice A0_2 l0_2.length c0_2] 24 (0, 0)) (bK) hb); have n1_ := Aside0.mk (below_step (bB) hb); clear BK401; clear HB; have BK401 := n0_; have HB := n1_; clear n0_ n1_; (try clear hb); (try clear hb2); (try clear hk); (try clear hi); have hcz12_0 : w11.cell? ⟨gb401, 0, none⟩ = some (.int .i64 a0_0) := (blk_cell BK401.out 0).trans rfl; have hcz12_1 : w11.cell? ⟨gb401, 1, none⟩ = some (.int .i64 a0_1) := (blk_cell BK401.out 1).trans rfl; have hcz12_2 : w11.cell? ⟨gb401, 2, none⟩ = some (.slice A0_2 l0_2.length c0_2) := (blk_cell BK401.out 2).trans rfl; have hfz12_0 := blk_frozen BK401.out 0; have hfz12_1 := blk_frozen BK401.out 1; have hfz12_2 := blk_frozen BK401.out 2) | ((with_reducible refine gate_callee (f := 45) rfl ?_); refine goesL_ (some 16) rfl rfl Try.func45 (by kernel_rfl) rfl #[.agg #[.int .i64 a0_0, .int .i64 a0_1, .slice A0_2 l0_2.length c0_2], .int .i64 a1] rfl (by (try simp only [List.map_toArray, List.map_cons, List.map_nil]); first | done | rfl | (simp only [List.length_drop, List.length_take]; rfl) | (simp only [Int.ofNat_lt, Int.ofNat_le]; rfl)) ?_; (with_reducible refine (semigroupref04_shaped.calls k a0_0 a0_1 _ _ l0_2 a1 true _ ?side1 ?side2 A7.out).mono ?_); (case side1 => repeat (first | exact (Kd.C_below HR0_2.out HB.out) | (with_reducible refine Kd.C_alloc ?_ _) | (with_reducible refine Kd.C_drewN ?_ _) | (with_reducible refine Kd.C_drew ?_))); (case side2 => exact HC0_2.out); rintro e w13 ⟨rfl, hb⟩; refine ⟨_, rfl, ?_⟩; have n0_ := Aside0.mk (blk_below (g := gb401) (o := .cells #[.int .i64 a0_0, .int .i64 a0_1, .slice A0_2 l0_2.length c0_2] 24 (0, 0)) (bK) hb); have n1_ := Aside0.mk (below_step (bB) hb); clear BK401; clear HB; have BK401 := n0_; have HB := n1_; clear n0_ n1_; (try clear hb); (try clear hb2); (try clear hk); (try clear hi)))
    go_ret
    exact ⟨by first | rfl | (simp [errW_none, errW_some] <;> rfl) | (simp [*, errW_none, errW_some] <;> rfl), bB⟩
   ·replace c8 := Bool.eq_false_iff.mpr c8
    subst c8
    have H1 : (some 4) = some r := by rw [if_neg (show ¬ (false = true) by decide)] at H; exact H
    clear H
    have H := H1
    clear H1
    obtain rfl := Option.some.inj H
    go_enter Try.func16, Try.ntmps16
    go_wp2_with (first | ((with_reducible refine gate_dst (N := 2) rfl ?_); refine box_event ?hg (N := 2) ?hd (cs := #[.int .i64 a0_0, .int .i64 a0_1, .slice A0_2 l0_2.length c0_2]) (t := 24) ?hr ?_; (case hd => rfl); (case hg => rfl); (case hr => first | (go_simp; done) | (go_simp; rfl)); intro gb401 hg w14 hbox hb; have n0_ := Aside0.mk (below_step (bB) hb); have n1_ := Aside0.mk (hbox); have n2_ := Aside0.mk ((by rw [hg]; exact (below_size (bB)) : w.heap.size ≤ gb401)); have n3_ := Aside0.mk ((by rw [hg]; exact (below_size (bB)) : w.heap.size ≤ gb401)); clear HB; have HB := n0_; have BK401 := n1_; have GW401 := n2_; have GE401 := n3_; clear n0_ n1_ n2_ n3_; clear hb hbox hg) | ((with_reducible refine gate_callee (f := 43) rfl ?_); refine goesL_ (some 7) rfl rfl Try.func43 (by kernel_rfl) rfl #[.int .i64 a1] rfl (by (try simp only [List.map_toArray, List.map_cons, List.map_nil]); first | done | rfl | (simp only [List.length_drop, List.length_take]; rfl) | (simp only [Int.ofNat_lt, Int.ofNat_le]; rfl)) ?_; (with_reducible refine (semigroupref01_MayLetters.calls a1 true _ A3.out).mono ?_); rintro e w' ⟨rfl, ⟨nd, rfl⟩⟩; refine ⟨_, rfl, ?_⟩; have hcz15_0 : w14.cell? ⟨gb401, 0, none⟩ = some (.int .i64 a0_0) := (blk_cell BK401.out 0).trans rfl; have hcz15_1 : w14.cell? ⟨gb401, 1, none⟩ = some (.int .i64 a0_1) := (blk_cell BK401.out 1).trans rfl; have hcz15_2 : w14.cell? ⟨gb401, 2, none⟩ = some (.slice A0_2 l0_2.length c0_2) := (blk_cell BK401.out 2).trans rfl; have hfz15_0 := blk_frozen BK401.out 0; have hfz15_1 := blk_frozen BK401.out 1; have hfz15_2 := blk_frozen BK401.out 2) | ((with_reducible refine gate_callee (f := 44) rfl ?_); refine goesL_ (some 11) rfl rfl Try.func44 (by kernel_rfl) rfl #[.agg #[.int .i64 a0_0, .int .i64 a0_1, .slice A0_2 l0_2.length c0_2]] rfl (by (try simp only [List.map_toArray, List.map_cons, List.map_nil]); first | done | rfl | (simp only [List.length_drop, List.length_take]; rfl) | (simp only [Int.ofNat_lt, Int.ofNat_le]; rfl)) ?_; (with_reducible refine (semigroupref04_Within.calls k a0_0 a0_1 _ _ l0_2 true _ ?side1 ?side2 A5.out).mono ?_); (case side1 => repeat (first | exact (Kd.C_below HR0_2.out (bB)) | (with_reducible refine Kd.C_alloc ?_ _) | (with_reducible refine Kd.C_drewN ?_ _) | (with_reducible refine Kd.C_drew ?_))); (case side2 => exact HC0_2.out); rintro e w16 ⟨rfl, hb⟩; refine ⟨_, rfl, ?_⟩; have n0_ := Aside0.mk (blk_below (g := gb401) (o := .cells #[.int .i64 a0_0, .int .i64 a0_1, .slice A0_2 l0_2.length c0_2] 24 (0, 0)) (bK) hb); have n1_ := Aside0.mk (below_step (bB) hb); clear BK401; clear HB; have BK401 := n0_; have HB := n1_; clear n0_ n1_; (try clear hb); (try clear hb2); (try clear hk); (try clear hi); have hcz17_0 : w16.cell? ⟨gb401, 0, none⟩ = some (.int .i64 a0_0) := (blk_cell BK401.out 0).trans rfl; have hcz17_1 : w16.cell? ⟨gb401, 1, none⟩ = some (.int .i64 a0_1) := (blk_cell BK401.out 1).trans rfl; have hcz17_2 : w16.cell? ⟨gb401, 2, none⟩ = some (.slice A0_2 l0_2.length c0_2) := (blk_cell BK401.out 2).trans rfl; have hfz17_0 := blk_frozen BK401.out 0; have hfz17_1 := blk_frozen BK401.out 1; have hfz17_2 := blk_frozen BK401.out 2) | ((with_reducible refine gate_callee (f := 45) rfl ?_); refine goesL_ (some 16) rfl rfl Try.func45 (by kernel_rfl) rfl #[.agg #[.int .i64 a0_0, .int .i64 a0_1, .slice A0_2 l0_2.length c0_2], .int .i64 a1] rfl (by (try simp only [List.map_toArray, List.map_cons, List.map_nil]); first | done | rfl | (simp only [List.length_drop, List.length_take]; rfl) | (simp only [Int.ofNat_lt, Int.ofNat_le]; rfl)) ?_; (with_reducible refine (semigroupref04_shaped.calls k a0_0 a0_1 _ _ l0_2 a1 false _ ?side1 ?side2 A7.out).mono ?_); (case side1 => repeat (first | exact (Kd.C_below HR0_2.out HB.out) | (with_reducible refine Kd.C_alloc ?_ _) | (with_reducible refine Kd.C_drewN ?_ _) | (with_reducible refine Kd.C_drew ?_))); (case side2 => exact HC0_2.out); rintro e w18 ⟨rfl, hb⟩; refine ⟨_, rfl, ?_⟩; have n0_ := Aside0.mk (blk_below (g := gb401) (o := .cells #[.int .i64 a0_0, .int .i64 a0_1, .slice A0_2 l0_2.length c0_2] 24 (0, 0)) (bK) hb); have n1_ := Aside0.mk (below_step (bB) hb); clear BK401; clear HB; have BK401 := n0_; have HB := n1_; clear n0_ n1_; (try clear hb); (try clear hb2); (try clear hk); (try clear hi)))
    go_ret
    exact ⟨by first | rfl | (simp [errW_none, errW_some] <;> rfl) | (simp [*, errW_none, errW_some] <;> rfl), bB⟩
  ·replace c6 := Bool.eq_false_iff.mpr c6
   subst c6
   have H1 : (some 3) = some r := by rw [if_neg (show ¬ (false = true) by decide)] at H; exact H
   clear H
   have H := H1
   clear H1
   obtain rfl := Option.some.inj H
   go_enter Try.func16, Try.ntmps16
   go_wp2_with (first | ((with_reducible refine gate_dst (N := 2) rfl ?_); refine box_event ?hg (N := 2) ?hd (cs := #[.int .i64 a0_0, .int .i64 a0_1, .slice A0_2 l0_2.length c0_2]) (t := 24) ?hr ?_; (case hd => rfl); (case hg => rfl); (case hr => first | (go_simp; done) | (go_simp; rfl)); intro gb401 hg w19 hbox hb; have n0_ := Aside0.mk (below_step (bB) hb); have n1_ := Aside0.mk (hbox); have n2_ := Aside0.mk ((by rw [hg]; exact (below_size (bB)) : w.heap.size ≤ gb401)); have n3_ := Aside0.mk ((by rw [hg]; exact (below_size (bB)) : w.heap.size ≤ gb401)); clear HB; have HB := n0_; have BK401 := n1_; have GW401 := n2_; have GE401 := n3_; clear n0_ n1_ n2_ n3_; clear hb hbox hg) | ((with_reducible refine gate_callee (f := 43) rfl ?_); refine goesL_ (some 7) rfl rfl Try.func43 (by kernel_rfl) rfl #[.int .i64 a1] rfl (by (try simp only [List.map_toArray, List.map_cons, List.map_nil]); first | done | rfl | (simp only [List.length_drop, List.length_take]; rfl) | (simp only [Int.ofNat_lt, Int.ofNat_le]; rfl)) ?_; (with_reducible refine (semigroupref01_MayLetters.calls a1 true _ A3.out).mono ?_); rintro e w' ⟨rfl, ⟨nd, rfl⟩⟩; refine ⟨_, rfl, ?_⟩; have hcz20_0 : w19.cell? ⟨gb401, 0, none⟩ = some (.int .i64 a0_0) := (blk_cell BK401.out 0).trans rfl; have hcz20_1 : w19.cell? ⟨gb401, 1, none⟩ = some (.int .i64 a0_1) := (blk_cell BK401.out 1).trans rfl; have hcz20_2 : w19.cell? ⟨gb401, 2, none⟩ = some (.slice A0_2 l0_2.length c0_2) := (blk_cell BK401.out 2).trans rfl; have hfz20_0 := blk_frozen BK401.out 0; have hfz20_1 := blk_frozen BK401.out 1; have hfz20_2 := blk_frozen BK401.out 2) | ((with_reducible refine gate_callee (f := 44) rfl ?_); refine goesL_ (some 11) rfl rfl Try.func44 (by kernel_rfl) rfl #[.agg #[.int .i64 a0_0, .int .i64 a0_1, .slice A0_2 l0_2.length c0_2]] rfl (by (try simp only [List.map_toArray, List.map_cons, List.map_nil]); first | done | rfl | (simp only [List.length_drop, List.length_take]; rfl) | (simp only [Int.ofNat_lt, Int.ofNat_le]; rfl)) ?_; (with_reducible refine (semigroupref04_Within.calls k a0_0 a0_1 _ _ l0_2 false _ ?side1 ?side2 A5.out).mono ?_); (case side1 => repeat (first | exact (Kd.C_below HR0_2.out (bB)) | (with_reducible refine Kd.C_alloc ?_ _) | (with_reducible refine Kd.C_drewN ?_ _) | (with_reducible refine Kd.C_drew ?_))); (case side2 => exact HC0_2.out); rintro e w21 ⟨rfl, hb⟩; refine ⟨_, rfl, ?_⟩; have n0_ := Aside0.mk (blk_below (g := gb401) (o := .cells #[.int .i64 a0_0, .int .i64 a0_1, .slice A0_2 l0_2.length c0_2] 24 (0, 0)) (bK) hb); have n1_ := Aside0.mk (below_step (bB) hb); clear BK401; clear HB; have BK401 := n0_; have HB := n1_; clear n0_ n1_; (try clear hb); (try clear hb2); (try clear hk); (try clear hi)))
   go_ret
   exact ⟨by first | rfl | (simp [errW_none, errW_some] <;> rfl) | (simp [*, errW_none, errW_some] <;> rfl), bB⟩
 ·replace c4 := Bool.eq_false_iff.mpr c4
  subst c4
  have H1 : (some 1) = some r := by rw [if_neg (show ¬ (false = true) by decide)] at H; exact H
  clear H
  have H := H1
  clear H1
  obtain rfl := Option.some.inj H
  go_enter Try.func16, Try.ntmps16
  go_wp2_with (first | ((with_reducible refine gate_dst (N := 2) rfl ?_); refine box_event ?hg (N := 2) ?hd (cs := #[.int .i64 a0_0, .int .i64 a0_1, .slice A0_2 l0_2.length c0_2]) (t := 24) ?hr ?_; (case hd => rfl); (case hg => rfl); (case hr => first | (go_simp; done) | (go_simp; rfl)); intro gb401 hg w22 hbox hb; have n0_ := Aside0.mk (below_step (bB) hb); have n1_ := Aside0.mk (hbox); have n2_ := Aside0.mk ((by rw [hg]; exact (below_size (bB)) : w.heap.size ≤ gb401)); have n3_ := Aside0.mk ((by rw [hg]; exact (below_size (bB)) : w.heap.size ≤ gb401)); clear HB; have HB := n0_; have BK401 := n1_; have GW401 := n2_; have GE401 := n3_; clear n0_ n1_ n2_ n3_; clear hb hbox hg) | ((with_reducible refine gate_callee (f := 43) rfl ?_); refine goesL_ (some 7) rfl rfl Try.func43 (by kernel_rfl) rfl #[.int .i64 a1] rfl (by (try simp only [List.map_toArray, List.map_cons, List.map_nil]); first | done | rfl | (simp only [List.length_drop, List.length_take]; rfl) | (simp only [Int.ofNat_lt, Int.ofNat_le]; rfl)) ?_; (with_reducible refine (semigroupref01_MayLetters.calls a1 false _ A3.out).mono ?_); rintro e w' ⟨rfl, ⟨nd, rfl⟩⟩; refine ⟨_, rfl, ?_⟩))
  go_ret
  exact ⟨by first | rfl | (simp [errW_none, errW_some] <;> rfl) | (simp [*, errW_none, errW_some] <;> rfl), bB⟩
end Go.Proofs.Ytjofkebiacaciaa.PAll
end
section
namespace Go.Proofs.Ytjofkebiacaciaa.PAll
open Go.RowKit Go.Proofs.YtjofkebiacaciaaW.PrintWords Go.Proofs.YtjofkebiacaciaaW.PrintLast Go.Proofs.YtjofkebiacaciaaW.PrintMore
attribute [local go_sem] max2_int min2_int max_two min_two max_three min_three max_four min_four
set_option linter.unusedVariables false
set_option linter.unusedSimpArgs false
def semigroupref04_Valid.f (k : Nat) (a0_0 : Int) (a0_1 : Int) (l0_2 : List (S24)) : Option (Bool) := (semigroupref04_Validate.f k a0_0 a0_1 l0_2 6).bind fun t406 => (some (t406 == 0))
theorem semigroupref04_Valid.mono : ∀ a0 a1 a2 k, LeO (semigroupref04_Valid.f k a0 a1 a2) (semigroupref04_Valid.f (k + 1) a0 a1 a2) := by
 intro a0 a1 a2 k
 unfold semigroupref04_Valid.f
 repeat' first
   | (with_reducible exact semigroupref04_Validate.mono _ _ _ _ _)
   | (with_reducible exact LeO.refl _)
   | (with_reducible exact LeO.none _)
   | (with_reducible refine LeO.ite ?_ ?_)
   | (with_reducible refine LeO.bind ?_ (fun _ => ?_))
   | exact semigroupref04_Validate.mono _ _ _ _ _
   | exact LeO.none _
   | refine LeO.ite ?_ ?_
   | refine LeO.bind ?_ (fun _ => ?_)
set_option maxHeartbeats 8000000 in
set_option maxRecDepth 100000 in
theorem semigroupref04_Valid.calls (k : Nat) (a0_0 : Int) (a0_1 : Int) (A0_2 : Option Addr) (c0_2 : Nat) (l0_2 : List (S24)) (r : Bool) (w : World) (hr0_2 : Kd.C k24 w A0_2 l0_2.length l0_2) (hc0_2 : l0_2.length ≤ c0_2) (h : semigroupref04_Valid.f k a0_0 a0_1 l0_2 = some r) :
  Calls Try.prog 19 #[.agg #[.int .i64 a0_0, .int .i64 a0_1, .slice A0_2 l0_2.length c0_2]] w fun e w' => e = .returned (.bool r) ∧ Below w.heap.size w w' := by
 have hu24 := Try.underlying24
 have HR0_2 := Aside0.mk hr0_2
 have HC0_2 := Aside0.mk hc0_2
 clear hr0_2 hc0_2
 have HB := Aside0.mk (Below.refl w.heap.size w)
 have H : ((semigroupref04_Validate.f k a0_0 a0_1 l0_2 6).bind fun t406 => (some (t406 == 0))) = some r := h
 clear h
 replace H := Option.bind_eq_some_iff.mp H
 obtain ⟨t406, A20, H⟩ := H
 replace H : (some (t406 == 0)) = some r := H
 have A2 := Aside0.mk A20
 clear A20
 obtain rfl := Option.some.inj H
 go_enter Try.func19, Try.ntmps19
 go_wp2_with (first | ((with_reducible refine gate_dst (N := 1) rfl ?_); refine box_event ?hg (N := 1) ?hd (cs := #[.int .i64 a0_0, .int .i64 a0_1, .slice A0_2 l0_2.length c0_2]) (t := 24) ?hr ?_; (case hd => rfl); (case hg => rfl); (case hr => first | (go_simp; done) | (go_simp; rfl)); intro gb405 hg w3 hbox hb; have n0_ := Aside0.mk (below_step (bB) hb); have n1_ := Aside0.mk (hbox); have n2_ := Aside0.mk ((by rw [hg]; exact (below_size (bB)) : w.heap.size ≤ gb405)); have n3_ := Aside0.mk ((by rw [hg]; exact (below_size (bB)) : w.heap.size ≤ gb405)); clear HB; have HB := n0_; have BK405 := n1_; have GW405 := n2_; have GE405 := n3_; clear n0_ n1_ n2_ n3_; clear hb hbox hg; have hcz4_0 : w3.cell? ⟨gb405, 0, none⟩ = some (.int .i64 a0_0) := (blk_cell BK405.out 0).trans rfl; have hcz4_1 : w3.cell? ⟨gb405, 1, none⟩ = some (.int .i64 a0_1) := (blk_cell BK405.out 1).trans rfl; have hcz4_2 : w3.cell? ⟨gb405, 2, none⟩ = some (.slice A0_2 l0_2.length c0_2) := (blk_cell BK405.out 2).trans rfl; have hfz4_0 := blk_frozen BK405.out 0; have hfz4_1 := blk_frozen BK405.out 1; have hfz4_2 := blk_frozen BK405.out 2) | ((with_reducible refine gate_callee (f := 16) rfl ?_); refine goesL_ (some 4) rfl rfl Try.func16 (by kernel_rfl) rfl #[.agg #[.int .i64 a0_0, .int .i64 a0_1, .slice A0_2 l0_2.length c0_2], .int .i64 6] rfl (by (try simp only [List.map_toArray, List.map_cons, List.map_nil]); first | done | rfl | (simp only [List.length_drop, List.length_take]; rfl) | (simp only [Int.ofNat_lt, Int.ofNat_le]; rfl)) ?_; (with_reducible refine (semigroupref04_Validate.calls k a0_0 a0_1 _ _ l0_2 6 t406 _ ?side1 ?side2 A2.out).mono ?_); (case side1 => repeat (first | exact (Kd.C_below HR0_2.out HB.out) | (with_reducible refine Kd.C_alloc ?_ _) | (with_reducible refine Kd.C_drewN ?_ _) | (with_reducible refine Kd.C_drew ?_))); (case side2 => exact HC0_2.out); rintro e w5 ⟨rfl, hb⟩; refine ⟨_, rfl, ?_⟩; have n0_ := Aside0.mk (blk_below (g := gb405) (o := .cells #[.int .i64 a0_0, .int .i64 a0_1, .slice A0_2 l0_2.length c0_2] 24 (0, 0)) (bK) hb); have n1_ := Aside0.mk (below_step (bB) hb); clear BK405; clear HB; have BK405 := n0_; have HB := n1_; clear n0_ n1_; (try clear hb); (try clear hb2); (try clear hk); (try clear hi)))
 go_ret
 exact ⟨by first | rfl | (simp [errW_none, errW_some] <;> rfl) | (simp [*, errW_none, errW_some] <;> rfl), bB⟩
end Go.Proofs.Ytjofkebiacaciaa.PAll
end
section
namespace Go.Proofs.Ytjofkebiacaciaa.PAll
open Go.RowKit Go.Proofs.YtjofkebiacaciaaW.PrintWords Go.Proofs.YtjofkebiacaciaaW.PrintLast Go.Proofs.YtjofkebiacaciaaW.PrintMore
attribute [local go_sem] max2_int min2_int max_two min_two max_three min_three max_four min_four
set_option linter.unusedVariables false
set_option linter.unusedSimpArgs false
def semigroupref04_Size.f (k : Nat) (a0_0 : Int) (a0_1 : Int) (l0_2 : List (S24)) : Option (Int) := (semigroupref04_measure.f k a0_0 a0_1 l0_2 400).bind fun bt408 => (some bt408.1)
theorem semigroupref04_Size.mono : ∀ a0 a1 a2 k, LeO (semigroupref04_Size.f k a0 a1 a2) (semigroupref04_Size.f (k + 1) a0 a1 a2) := by
 intro a0 a1 a2 k
 unfold semigroupref04_Size.f
 repeat' first
   | (with_reducible exact semigroupref04_measure.mono _ _ _ _ _)
   | (with_reducible exact LeO.refl _)
   | (with_reducible exact LeO.none _)
   | (with_reducible refine LeO.ite ?_ ?_)
   | (with_reducible refine LeO.bind ?_ (fun _ => ?_))
   | exact semigroupref04_measure.mono _ _ _ _ _
   | exact LeO.none _
   | refine LeO.ite ?_ ?_
   | refine LeO.bind ?_ (fun _ => ?_)
set_option maxHeartbeats 8000000 in
set_option maxRecDepth 100000 in
theorem semigroupref04_Size.calls (k : Nat) (a0_0 : Int) (a0_1 : Int) (A0_2 : Option Addr) (c0_2 : Nat) (l0_2 : List (S24)) (r : Int) (w : World) (hr0_2 : Kd.C k24 w A0_2 l0_2.length l0_2) (hc0_2 : l0_2.length ≤ c0_2) (h : semigroupref04_Size.f k a0_0 a0_1 l0_2 = some r) :
  Calls Try.prog 30 #[.agg #[.int .i64 a0_0, .int .i64 a0_1, .slice A0_2 l0_2.length c0_2]] w fun e w' => e = .returned (.int .i64 r) ∧ Below w.heap.size w w' := by
 have hu24 := Try.underlying24
 have HR0_2 := Aside0.mk hr0_2
 have HC0_2 := Aside0.mk hc0_2
 clear hr0_2 hc0_2
 have HB := Aside0.mk (Below.refl w.heap.size w)
 have H : ((semigroupref04_measure.f k a0_0 a0_1 l0_2 400).bind fun bt408 => (some bt408.1)) = some r := h
 clear h
 replace H := Option.bind_eq_some_iff.mp H
 obtain ⟨⟨t408, t409⟩, A20, H⟩ := H
 replace H : (some t408) = some r := H
 have A2 := Aside0.mk A20
 clear A20
 obtain rfl := Option.some.inj H
 go_enter Try.func30, Try.ntmps30
 go_wp2_with (first | ((with_reducible refine gate_dst (N := 1) rfl ?_); refine box_event ?hg (N := 1) ?hd (cs := #[.int .i64 a0_0, .int .i64 a0_1, .slice A0_2 l0_2.length c0_2]) (t := 24) ?hr ?_; (case hd => rfl); (case hg => rfl); (case hr => first | (go_simp; done) | (go_simp; rfl)); intro gb407 hg w3 hbox hb; have n0_ := Aside0.mk (below_step (bB) hb); have n1_ := Aside0.mk (hbox); have n2_ := Aside0.mk ((by rw [hg]; exact (below_size (bB)) : w.heap.size ≤ gb407)); have n3_ := Aside0.mk ((by rw [hg]; exact (below_size (bB)) : w.heap.size ≤ gb407)); clear HB; have HB := n0_; have BK407 := n1_; have GW407 := n2_; have GE407 := n3_; clear n0_ n1_ n2_ n3_; clear hb hbox hg; have hcz4_0 : w3.cell? ⟨gb407, 0, none⟩ = some (.int .i64 a0_0) := (blk_cell BK407.out 0).trans rfl; have hcz4_1 : w3.cell? ⟨gb407, 1, none⟩ = some (.int .i64 a0_1) := (blk_cell BK407.out 1).trans rfl; have hcz4_2 : w3.cell? ⟨gb407, 2, none⟩ = some (.slice A0_2 l0_2.length c0_2) := (blk_cell BK407.out 2).trans rfl; have hfz4_0 := blk_frozen BK407.out 0; have hfz4_1 := blk_frozen BK407.out 1; have hfz4_2 := blk_frozen BK407.out 2) | ((with_reducible refine gate_callee (f := 58) rfl ?_); refine goesL_ (some 7) rfl rfl Try.func58 (by kernel_rfl) rfl #[.agg #[.int .i64 a0_0, .int .i64 a0_1, .slice A0_2 l0_2.length c0_2], .int .i64 400] rfl (by (try simp only [List.map_toArray, List.map_cons, List.map_nil]); first | done | rfl | (simp only [List.length_drop, List.length_take]; rfl) | (simp only [Int.ofNat_lt, Int.ofNat_le]; rfl)) ?_; (with_reducible refine (semigroupref04_measure.calls k a0_0 a0_1 _ _ l0_2 400 t408 t409 _ ?side1 ?side2 A2.out).mono ?_); (case side1 => repeat (first | exact (Kd.C_below HR0_2.out HB.out) | (with_reducible refine Kd.C_alloc ?_ _) | (with_reducible refine Kd.C_drewN ?_ _) | (with_reducible refine Kd.C_drew ?_))); (case side2 => exact HC0_2.out); rintro e w5 ⟨rfl, hb⟩; refine ⟨_, rfl, ?_⟩; have n0_ := Aside0.mk (blk_below (g := gb407) (o := .cells #[.int .i64 a0_0, .int .i64 a0_1, .slice A0_2 l0_2.length c0_2] 24 (0, 0)) (bK) hb); have n1_ := Aside0.mk (below_step (bB) hb); clear BK407; clear HB; have BK407 := n0_; have HB := n1_; clear n0_ n1_; (try clear hb); (try clear hb2); (try clear hk); (try clear hi)))
 go_ret
 exact ⟨by first | rfl | (simp [errW_none, errW_some] <;> rfl) | (simp [*, errW_none, errW_some] <;> rfl), bB⟩
end Go.Proofs.Ytjofkebiacaciaa.PAll
end
section
namespace Go.Proofs.Ytjofkebiacaciaa.PAll
open Go.RowKit Go.Proofs.YtjofkebiacaciaaW.PrintWords Go.Proofs.YtjofkebiacaciaaW.PrintLast Go.Proofs.YtjofkebiacaciaaW.PrintMore
attribute [local go_sem] max2_int min2_int max_two min_two max_three min_three max_four min_four
set_option linter.unusedVariables false
set_option linter.unusedSimpArgs false
def semigrouplaw04_little.f (k : Nat) (a0_0 : Int) (a0_1 : Int) (l0_2 : List (S24)) (a1 : Int) : Option (Bool) := (semigroupref04_Valid.f k a0_0 a0_1 l0_2).bind fun t411 => (if t411 = true then ((semigroupref04_Size.f k a0_0 a0_1 l0_2).bind fun t412 => (if t412 ≤ a1 then ((semigroupref04_Depth.f k a0_0 a0_1 l0_2).bind fun t413 => (some (decide (t413 ≤ 12)))) else (some false))) else (some false))
theorem semigrouplaw04_little.mono : ∀ a0 a1 a2 a3 k, LeO (semigrouplaw04_little.f k a0 a1 a2 a3) (semigrouplaw04_little.f (k + 1) a0 a1 a2 a3) := by
 intro a0 a1 a2 a3 k
 unfold semigrouplaw04_little.f
 repeat' first
   | (with_reducible exact semigroupref04_Depth.mono _ _ _ _)
   | (with_reducible exact semigroupref04_Size.mono _ _ _ _)
   | (with_reducible exact semigroupref04_Valid.mono _ _ _ _)
   | (with_reducible exact LeO.refl _)
   | (with_reducible exact LeO.none _)
   | (with_reducible refine LeO.ite ?_ ?_)
   | (with_reducible refine LeO.bind ?_ (fun _ => ?_))
   | exact semigroupref04_Depth.mono _ _ _ _
   | exact semigroupref04_Size.mono _ _ _ _
   | exact semigroupref04_Valid.mono _ _ _ _
   | exact LeO.none _
   | refine LeO.ite ?_ ?_
   | refine LeO.bind ?_ (fun _ => ?_)
set_option maxHeartbeats 8000000 in
set_option maxRecDepth 100000 in
theorem semigrouplaw04_little.calls (k : Nat) (a0_0 : Int) (a0_1 : Int) (A0_2 : Option Addr) (c0_2 : Nat) (l0_2 : List (S24)) (a1 : Int) (r : Bool) (w : World) (hr0_2 : Kd.C k24 w A0_2 l0_2.length l0_2) (hc0_2 : l0_2.length ≤ c0_2) (h : semigrouplaw04_little.f k a0_0 a0_1 l0_2 a1 = some r) :
  Calls Try.prog 37 #[.agg #[.int .i64 a0_0, .int .i64 a0_1, .slice A0_2 l0_2.length c0_2], .int .i64 a1] w fun e w' => e = .returned (.bool r) ∧ Below w.heap.size w w' := by
 have hu24 := Try.underlying24
 have HR0_2 := Aside0.mk hr0_2
 have HC0_2 := Aside0.mk hc0_2
 clear hr0_2 hc0_2
 have HB := Aside0.mk (Below.refl w.heap.size w)
 have H : ((semigroupref04_Valid.f k a0_0 a0_1 l0_2).bind fun t411 => (if t411 = true then ((semigroupref04_Size.f k a0_0 a0_1 l0_2).bind fun t412 => (if t412 ≤ a1 then ((semigroupref04_Depth.f k a0_0 a0_1 l0_2).bind fun t413 => (some (decide (t413 ≤ 12)))) else (some false))) else (some false))) = some r := h
 clear h
 replace H := Option.bind_eq_some_iff.mp H
 obtain ⟨t411, A30, H⟩ := H
 replace H : (if t411 = true then ((semigroupref04_Size.f k a0_0 a0_1 l0_2).bind fun t412 => (if t412 ≤ a1 then ((semigroupref04_Depth.f k a0_0 a0_1 l0_2).bind fun t413 => (some (decide (t413 ≤ 12)))) else (some false))) else (some false)) = some r := H
 have A3 := Aside0.mk A30
 clear A30
 by_cases c4 : t411 = true
 ·subst c4
  have H1 : ((semigroupref04_Size.f k a0_0 a0_1 l0_2).bind fun t412 => (if t412 ≤ a1 then ((semigroupref04_Depth.f k a0_0 a0_1 l0_2).bind fun t413 => (some (decide (t413 ≤ 12)))) else (some false))) = some r := by rw [if_pos rfl] at H; exact H
  clear H
  have H := H1
  clear H1
  replace H := Option.bind_eq_some_iff.mp H
  obtain ⟨t412, A50, H⟩ := H
  replace H : (if t412 ≤ a1 then ((semigroupref04_Depth.f k a0_0 a0_1 l0_2).bind fun t413 => (some (decide (t413 ≤ 12)))) else (some false)) = some r := H
  have A5 := Aside0.mk A50
  clear A50
  have HC6 := Aside0.mk H
  clear H
  go_enter Try.func37, Try.ntmps37
  go_wp2_with (first | ((with_reducible refine gate_dst (N := 2) rfl ?_); refine box_event ?hg (N := 2) ?hd (cs := #[.int .i64 a0_0, .int .i64 a0_1, .slice A0_2 l0_2.length c0_2]) (t := 24) ?hr ?_; (case hd => rfl); (case hg => rfl); (case hr => first | (go_simp; done) | (go_simp; rfl)); intro gb410 hg w7 hbox hb; have n0_ := Aside0.mk (below_step (bB) hb); have n1_ := Aside0.mk (hbox); have n2_ := Aside0.mk ((by rw [hg]; exact (below_size (bB)) : w.heap.size ≤ gb410)); have n3_ := Aside0.mk ((by rw [hg]; exact (below_size (bB)) : w.heap.size ≤ gb410)); clear HB; have HB := n0_; have BK410 := n1_; have GW410 := n2_; have GE410 := n3_; clear n0_ n1_ n2_ n3_; clear hb hbox hg; have hcz8_0 : w7.cell? ⟨gb410, 0, none⟩ = some (.int .i64 a0_0) := (blk_cell BK410.out 0).trans rfl; have hcz8_1 : w7.cell? ⟨gb410, 1, none⟩ = some (.int .i64 a0_1) := (blk_cell BK410.out 1).trans rfl; have hcz8_2 : w7.cell? ⟨gb410, 2, none⟩ = some (.slice A0_2 l0_2.length c0_2) := (blk_cell BK410.out 2).trans rfl; have hfz8_0 := blk_frozen BK410.out 0; have hfz8_1 := blk_frozen BK410.out 1; have hfz8_2 := blk_frozen BK410.out 2) | ((with_reducible refine gate_callee (f := 19) rfl ?_); refine goesL_ (some 6) rfl rfl Try.func19 (by kernel_rfl) rfl #[.agg #[.int .i64 a0_0, .int .i64 a0_1, .slice A0_2 l0_2.length c0_2]] rfl (by (try simp only [List.map_toArray, List.map_cons, List.map_nil]); first | done | rfl | (simp only [List.length_drop, List.length_take]; rfl) | (simp only [Int.ofNat_lt, Int.ofNat_le]; rfl)) ?_; (with_reducible refine (semigroupref04_Valid.calls k a0_0 a0_1 _ _ l0_2 true _ ?side1 ?side2 A3.out).mono ?_); (case side1 => repeat (first | exact (Kd.C_below HR0_2.out HB.out) | (with_reducible refine Kd.C_alloc ?_ _) | (with_reducible refine Kd.C_drewN ?_ _) | (with_reducible refine Kd.C_drew ?_))); (case side2 => exact HC0_2.out); rintro e w9 ⟨rfl, hb⟩; refine ⟨_, rfl, ?_⟩; have n0_ := Aside0.mk (blk_below (g := gb410) (o := .cells #[.int .i64 a0_0, .int .i64 a0_1, .slice A0_2 l0_2.length c0_2] 24 (0, 0)) (bK) hb); have n1_ := Aside0.mk (below_step (bB) hb); clear BK410; clear HB; have BK410 := n0_; have HB := n1_; clear n0_ n1_; (try clear hb); (try clear hb2); (try clear hk); (try clear hi); have hcz10_0 : w9.cell? ⟨gb410, 0, none⟩ = some (.int .i64 a0_0) := (blk_cell BK410.out 0).trans rfl; have hcz10_1 : w9.cell? ⟨gb410, 1, none⟩ = some (.int .i64 a0_1) := (blk_cell BK410.out 1).trans rfl; have hcz10_2 : w9.cell? ⟨gb410, 2, none⟩ = some (.slice A0_2 l0_2.length c0_2) := (blk_cell BK410.out 2).trans rfl; have hfz10_0 := blk_frozen BK410.out 0; have hfz10_1 := blk_frozen BK410.out 1; have hfz10_2 := blk_frozen BK410.out 2) | (go_at_call 30; (with_reducible refine (semigroupref04_Size.calls k a0_0 a0_1 _ _ l0_2 t412 _ ?side1 ?side2 A5.out).mono ?_); (case side1 => repeat (first | exact (Kd.C_below HR0_2.out HB.out) | (with_reducible refine Kd.C_alloc ?_ _) | (with_reducible refine Kd.C_drewN ?_ _) | (with_reducible refine Kd.C_drew ?_))); (case side2 => exact HC0_2.out); rintro e w11 ⟨rfl, hb⟩; have n0_ := Aside0.mk (blk_below (g := gb410) (o := .cells #[.int .i64 a0_0, .int .i64 a0_1, .slice A0_2 l0_2.length c0_2] 24 (0, 0)) (bK) hb); have n1_ := Aside0.mk (below_step (bB) hb); clear BK410; clear HB; have BK410 := n0_; have HB := n1_; clear n0_ n1_; (try clear hb); (try clear hb2); (try clear hk); (try clear hi); refine Go.Proofs.YtjofkebiacaciaaW.PrintWords.FootX.wall_ ?_))
  refine ⟨?_⟩
  (try simp only [Act.put, List.setIfInBounds_toArray, List.set_cons_zero, List.set_cons_succ])
  have H := HC6.out
  clear HC6
  try clear c4
  try clear hcz10_0
  try clear hcz10_1
  try clear hcz10_2
  try clear hcz8_0
  try clear hcz8_1
  try clear hcz8_2
  try clear hfz10_0
  try clear hfz10_1
  try clear hfz10_2
  try clear hfz8_0
  try clear hfz8_1
  try clear hfz8_2
  by_cases c12 : t412 ≤ a1
  ·rw [if_pos c12] at H
   have c12b0 : decide (t412 ≤ a1) = true := decide_eq_true c12
   clear c12
   (first | rw [c12b0] | (simp only [i64_w, i32_w]; rw [c12b0]) | skip)
   replace H := Option.bind_eq_some_iff.mp H
   obtain ⟨t413, A130, H⟩ := H
   replace H : (some (decide (t413 ≤ 12))) = some r := H
   have A13 := Aside0.mk A130
   clear A130
   obtain rfl := Option.some.inj H
   have hcz14_0 : w11.cell? ⟨gb410, 0, none⟩ = some (.int .i64 a0_0) := (blk_cell BK410.out 0).trans rfl
   have hcz14_1 : w11.cell? ⟨gb410, 1, none⟩ = some (.int .i64 a0_1) := (blk_cell BK410.out 1).trans rfl
   have hcz14_2 : w11.cell? ⟨gb410, 2, none⟩ = some (.slice A0_2 l0_2.length c0_2) := (blk_cell BK410.out 2).trans rfl
   have hfz14_0 := blk_frozen BK410.out 0
   have hfz14_1 := blk_frozen BK410.out 1
   have hfz14_2 := blk_frozen BK410.out 2
   go_wp2_with (first | (go_at_call 31; (with_reducible refine (semigroupref04_Depth.calls k a0_0 a0_1 _ _ l0_2 t413 _ ?side1 ?side2 A13.out).mono ?_); (case side1 => repeat (first | exact (Kd.C_below HR0_2.out HB.out) | (with_reducible refine Kd.C_alloc ?_ _) | (with_reducible refine Kd.C_drewN ?_ _) | (with_reducible refine Kd.C_drew ?_))); (case side2 => exact HC0_2.out); rintro e w15 ⟨rfl, hb⟩; have n0_ := Aside0.mk (blk_below (g := gb410) (o := .cells #[.int .i64 a0_0, .int .i64 a0_1, .slice A0_2 l0_2.length c0_2] 24 (0, 0)) (bK) hb); have n1_ := Aside0.mk (below_step (bB) hb); clear BK410; clear HB; have BK410 := n0_; have HB := n1_; clear n0_ n1_; (try clear hb); (try clear hb2); (try clear hk); (try clear hi)))
   go_ret
   exact ⟨by first | rfl | (simp [errW_none, errW_some] <;> rfl) | (simp [*, errW_none, errW_some] <;> rfl), bB⟩
  ·rw [if_neg c12] at H
   have c12b0 : decide (t412 ≤ a1) = false := decide_eq_false c12
   clear c12
   (first | rw [c12b0] | (simp only [i64_w, i32_w]; rw [c12b0]) | skip)
   obtain rfl := Option.some.inj H
   go_wp2
   go_ret
   exact ⟨by first | rfl | (simp [errW_none, errW_some] <;> rfl) | (simp [*, errW_none, errW_some] <;> rfl), bB⟩
 ·replace c4 := Bool.eq_false_iff.mpr c4
  subst c4
  have H1 : (some false) = some r := by rw [if_neg (show ¬ (false = true) by decide)] at H; exact H
  clear H
  have H := H1
  clear H1
  obtain rfl := Option.some.inj H
  go_enter Try.func37, Try.ntmps37
  go_wp2_with (first | ((with_reducible refine gate_dst (N := 2) rfl ?_); refine box_event ?hg (N := 2) ?hd (cs := #[.int .i64 a0_0, .int .i64 a0_1, .slice A0_2 l0_2.length c0_2]) (t := 24) ?hr ?_; (case hd => rfl); (case hg => rfl); (case hr => first | (go_simp; done) | (go_simp; rfl)); intro gb410 hg w16 hbox hb; have n0_ := Aside0.mk (below_step (bB) hb); have n1_ := Aside0.mk (hbox); have n2_ := Aside0.mk ((by rw [hg]; exact (below_size (bB)) : w.heap.size ≤ gb410)); have n3_ := Aside0.mk ((by rw [hg]; exact (below_size (bB)) : w.heap.size ≤ gb410)); clear HB; have HB := n0_; have BK410 := n1_; have GW410 := n2_; have GE410 := n3_; clear n0_ n1_ n2_ n3_; clear hb hbox hg; have hcz17_0 : w16.cell? ⟨gb410, 0, none⟩ = some (.int .i64 a0_0) := (blk_cell BK410.out 0).trans rfl; have hcz17_1 : w16.cell? ⟨gb410, 1, none⟩ = some (.int .i64 a0_1) := (blk_cell BK410.out 1).trans rfl; have hcz17_2 : w16.cell? ⟨gb410, 2, none⟩ = some (.slice A0_2 l0_2.length c0_2) := (blk_cell BK410.out 2).trans rfl; have hfz17_0 := blk_frozen BK410.out 0; have hfz17_1 := blk_frozen BK410.out 1; have hfz17_2 := blk_frozen BK410.out 2) | ((with_reducible refine gate_callee (f := 19) rfl ?_); refine goesL_ (some 6) rfl rfl Try.func19 (by kernel_rfl) rfl #[.agg #[.int .i64 a0_0, .int .i64 a0_1, .slice A0_2 l0_2.length c0_2]] rfl (by (try simp only [List.map_toArray, List.map_cons, List.map_nil]); first | done | rfl | (simp only [List.length_drop, List.length_take]; rfl) | (simp only [Int.ofNat_lt, Int.ofNat_le]; rfl)) ?_; (with_reducible refine (semigroupref04_Valid.calls k a0_0 a0_1 _ _ l0_2 false _ ?side1 ?side2 A3.out).mono ?_); (case side1 => repeat (first | exact (Kd.C_below HR0_2.out HB.out) | (with_reducible refine Kd.C_alloc ?_ _) | (with_reducible refine Kd.C_drewN ?_ _) | (with_reducible refine Kd.C_drew ?_))); (case side2 => exact HC0_2.out); rintro e w18 ⟨rfl, hb⟩; refine ⟨_, rfl, ?_⟩; have n0_ := Aside0.mk (blk_below (g := gb410) (o := .cells #[.int .i64 a0_0, .int .i64 a0_1, .slice A0_2 l0_2.length c0_2] 24 (0, 0)) (bK) hb); have n1_ := Aside0.mk (below_step (bB) hb); clear BK410; clear HB; have BK410 := n0_; have HB := n1_; clear n0_ n1_; (try clear hb); (try clear hb2); (try clear hk); (try clear hi)))
  go_ret
  exact ⟨by first | rfl | (simp [errW_none, errW_some] <;> rfl) | (simp [*, errW_none, errW_some] <;> rfl), bB⟩
end Go.Proofs.Ytjofkebiacaciaa.PAll
end
section
namespace Go.Proofs.Ytjofkebiacaciaa.PAll
open Go.RowKit Go.Proofs.YtjofkebiacaciaaW.PrintWords Go.Proofs.YtjofkebiacaciaaW.PrintLast Go.Proofs.YtjofkebiacaciaaW.PrintMore
attribute [local go_sem] max2_int min2_int max_two min_two max_three min_three max_four min_four
set_option linter.unusedVariables false
set_option linter.unusedSimpArgs false
def semigrouplaw04_ExprBoolean.j0 : Nat → ByteArray → Bool → Int → Int → List (S24) → Int → Int → List (S24) → Option (Bool)
 | 0, _, _, _, _, _, _, _, _ => none
 | k + 1, x2, x39, x415000, x415001, x415002, x416000, x416001, x416002 => if x39 = true then ((semigrouplaw04_awake.f k).bind fun t421 => (some t421)) else ((expr_Match.f k x415000 x415001 x415002 x2).bind fun t422 => ((expr_Match.f k x416000 x416001 x416002 x2).bind fun t423 => ((expr_Match.f k 4 0 (([(⟨x415000, x415001, x415002⟩ : S24), (⟨x416000, x416001, x416002⟩ : S24)] : List (S24))) x2).bind fun t427 => ((expr_Match.f k 6 0 (([(⟨x415000, x415001, x415002⟩ : S24), (⟨x416000, x416001, x416002⟩ : S24)] : List (S24))) x2).bind fun t431 => ((expr_Match.f k 8 0 (([(⟨x415000, x415001, x415002⟩ : S24)] : List (S24))) x2).bind fun t435 => (if t422 = true then (if (t427 == true) = true then (if (t431 == t423) = true then (if (t435 == (!t422)) = true then ((semigrouplaw04_awake.f k).bind fun t436 => (some t436)) else (some false)) else (some false)) else (some false)) else (if (t427 == t423) = true then (if (t431 == false) = true then (if (t435 == (!t422)) = true then ((semigrouplaw04_awake.f k).bind fun t437 => (some t437)) else (some false)) else (some false)) else (some false))))))))
def semigrouplaw04_ExprBoolean.f (k : Nat) (a0_0 : Int) (a0_1 : Int) (l0_2 : List (S24)) (a1_0 : Int) (a1_1 : Int) (l1_2 : List (S24)) (a2 : ByteArray) : Option (Bool) := (semigrouplaw04_little.f k a0_0 a0_1 l0_2 40).bind fun t416 => (if t416 = true then ((semigrouplaw04_little.f k a1_0 a1_1 l1_2 40).bind fun t417 => (if t417 = true then (if (a2.size : Int) > 8 then (semigrouplaw04_ExprBoolean.j0 k a2 true a0_0 a0_1 l0_2 a1_0 a1_1 l1_2) else ((semigroupref01_Valid.f k a2 6).bind fun t418 => (if t418 = true then ((semigroupref04_Depth.f k a0_0 a0_1 l0_2).bind fun t419 => (if t419 ≥ 40 then (semigrouplaw04_ExprBoolean.j0 k a2 true a0_0 a0_1 l0_2 a1_0 a1_1 l1_2) else ((semigroupref04_Depth.f k a1_0 a1_1 l1_2).bind fun t420 => (semigrouplaw04_ExprBoolean.j0 k a2 (decide (t420 ≥ 40)) a0_0 a0_1 l0_2 a1_0 a1_1 l1_2)))) else (semigrouplaw04_ExprBoolean.j0 k a2 true a0_0 a0_1 l0_2 a1_0 a1_1 l1_2)))) else (semigrouplaw04_ExprBoolean.j0 k a2 true a0_0 a0_1 l0_2 a1_0 a1_1 l1_2))) else (semigrouplaw04_ExprBoolean.j0 k a2 true a0_0 a0_1 l0_2 a1_0 a1_1 l1_2))
theorem semigrouplaw04_ExprBoolean.mono_l : ∀ k, (∀ y0 y1 y2 y3 y4 y5 y6 y7, LeO (semigrouplaw04_ExprBoolean.j0 k y0 y1 y2 y3 y4 y5 y6 y7) (semigrouplaw04_ExprBoolean.j0 (k + 1) y0 y1 y2 y3 y4 y5 y6 y7))
 | 0 => fun _ _ _ _ _ _ _ _ r h => by simp [semigrouplaw04_ExprBoolean.j0] at h
 | k + 1 => by
  have ih0 := semigrouplaw04_ExprBoolean.mono_l k
  ·intro y0 y1 y2 y3 y4 y5 y6 y7
   unfold semigrouplaw04_ExprBoolean.j0
   repeat' first
   | (with_reducible exact ih0 _ _ _ _ _ _ _ _)
   | (with_reducible exact expr_Match.mono _ _ _ _ _)
   | (with_reducible exact semigrouplaw04_awake.mono _)
   | (with_reducible exact semigrouplaw04_little.mono _ _ _ _ _)
   | (with_reducible exact semigroupref01_Valid.mono _ _ _)
   | (with_reducible exact semigroupref04_Depth.mono _ _ _ _)
   | (with_reducible exact LeO.refl _)
   | (with_reducible exact LeO.none _)
   | (with_reducible refine LeO.ite ?_ ?_)
   | (with_reducible refine LeO.bind ?_ (fun _ => ?_))
   | exact ih0 _ _ _ _ _ _ _ _
   | exact expr_Match.mono _ _ _ _ _
   | exact semigrouplaw04_awake.mono _
   | exact semigrouplaw04_little.mono _ _ _ _ _
   | exact semigroupref01_Valid.mono _ _ _
   | exact semigroupref04_Depth.mono _ _ _ _
   | exact LeO.none _
   | refine LeO.ite ?_ ?_
   | refine LeO.bind ?_ (fun _ => ?_)
theorem semigrouplaw04_ExprBoolean.mono : ∀ a0 a1 a2 a3 a4 a5 a6 k, LeO (semigrouplaw04_ExprBoolean.f k a0 a1 a2 a3 a4 a5 a6) (semigrouplaw04_ExprBoolean.f (k + 1) a0 a1 a2 a3 a4 a5 a6) := by
 intro a0 a1 a2 a3 a4 a5 a6 k
 have ih0 := semigrouplaw04_ExprBoolean.mono_l k
 unfold semigrouplaw04_ExprBoolean.f
 repeat' first
   | (with_reducible exact ih0 _ _ _ _ _ _ _ _)
   | (with_reducible exact expr_Match.mono _ _ _ _ _)
   | (with_reducible exact semigrouplaw04_awake.mono _)
   | (with_reducible exact semigrouplaw04_little.mono _ _ _ _ _)
   | (with_reducible exact semigroupref01_Valid.mono _ _ _)
   | (with_reducible exact semigroupref04_Depth.mono _ _ _ _)
   | (with_reducible exact LeO.refl _)
   | (with_reducible exact LeO.none _)
   | (with_reducible refine LeO.ite ?_ ?_)
   | (with_reducible refine LeO.bind ?_ (fun _ => ?_))
   | exact ih0 _ _ _ _ _ _ _ _
   | exact expr_Match.mono _ _ _ _ _
   | exact semigrouplaw04_awake.mono _
   | exact semigrouplaw04_little.mono _ _ _ _ _
   | exact semigroupref01_Valid.mono _ _ _
   | exact semigroupref04_Depth.mono _ _ _ _
   | exact LeO.none _
   | refine LeO.ite ?_ ?_
   | refine LeO.bind ?_ (fun _ => ?_)
def semigrouplaw04_ExprBoolean.T3 : Bool × List (List Nat × List Nat) := (true, [([], []), ([], []), ([0, 1], [0, 1]), ([], []), ([], []), ([3, 4, 2], [3, 4]), ([2, 5, 0, 1, 2], [2]), ([5, 6, 0, 1, 2, 3, 4, 5, 6], [5])])
def semigrouplaw04_ExprBoolean.B3 : List Nat := [0, 0, 3, 0, 0, 31, 63, 127]
theorem semigrouplaw04_ExprBoolean.tab3 : rtab .any (opsOf Try.f9 3) = semigrouplaw04_ExprBoolean.T3 := by kernel_rfl
theorem semigrouplaw04_ExprBoolean.bits3 : waitsOk semigrouplaw04_ExprBoolean.T3.2 semigrouplaw04_ExprBoolean.B3 = true := by kernel_rfl
set_option maxHeartbeats 8000000 in
set_option maxRecDepth 100000 in
theorem semigrouplaw04_ExprBoolean.calls (k : Nat) (a0_0 : Int) (a0_1 : Int) (P0_2_ : Nat → Prop) (A0_2 : Option Addr) (c0_2 : Nat) (l0_2 : List (S24)) (a1_0 : Int) (a1_1 : Int) (P1_2_ : Nat → Prop) (A1_2 : Option Addr) (c1_2 : Nat) (l1_2 : List (S24)) (a2 : ByteArray) (r : Bool) (w : World) (hs0_2 : Kd.V k24 24 w w.heap.size (fun k_ => P0_2_ k_) (.slice A0_2 l0_2.length c0_2) l0_2) (hs1_2 : Kd.V k24 24 w w.heap.size (fun k_ => P1_2_ k_) (.slice A1_2 l1_2.length c1_2) l1_2) (h : semigrouplaw04_ExprBoolean.f k a0_0 a0_1 l0_2 a1_0 a1_1 l1_2 a2 = some r) :
  Calls Try.prog 9 #[.agg #[.int .i64 a0_0, .int .i64 a0_1, .slice A0_2 l0_2.length c0_2], .agg #[.int .i64 a1_0, .int .i64 a1_1, .slice A1_2 l1_2.length c1_2], .string a2] w fun e w' => e = .returned (.bool r) ∧ Below w.heap.size w w' := by
 have hu24 := Try.underlying24
 have HO0_2 := Aside0.mk (show Kd.V k24 24 w w.heap.size (fun k_ => ((P0_2_ k_ ∨ P1_2_ k_) ∨ w.heap.size ≤ k_)) (.slice A0_2 l0_2.length c0_2) l0_2 from Kd.V_mono hs0_2 (fun k_ hk => .inl (.inl hk)))
 have HO1_2 := Aside0.mk (show Kd.V k24 24 w w.heap.size (fun k_ => ((P0_2_ k_ ∨ P1_2_ k_) ∨ w.heap.size ≤ k_)) (.slice A1_2 l1_2.length c1_2) l1_2 from Kd.V_mono hs1_2 (fun k_ hk => .inl (.inr hk)))
 have HB := Aside0.mk (Below.refl w.heap.size w)
 have H : ((semigrouplaw04_little.f k a0_0 a0_1 l0_2 40).bind fun t416 => (if t416 = true then ((semigrouplaw04_little.f k a1_0 a1_1 l1_2 40).bind fun t417 => (if t417 = true then (if (a2.size : Int) > 8 then (semigrouplaw04_ExprBoolean.j0 k a2 true a0_0 a0_1 l0_2 a1_0 a1_1 l1_2) else ((semigroupref01_Valid.f k a2 6).bind fun t418 => (if t418 = true then ((semigroupref04_Depth.f k a0_0 a0_1 l0_2).bind fun t419 => (if t419 ≥ 40 then (semigrouplaw04_ExprBoolean.j0 k a2 true a0_0 a0_1 l0_2 a1_0 a1_1 l1_2) else ((semigroupref04_Depth.f k a1_0 a1_1 l1_2).bind fun t420 => (semigrouplaw04_ExprBoolean.j0 k a2 (decide (t420 ≥ 40)) a0_0 a0_1 l0_2 a1_0 a1_1 l1_2)))) else (semigrouplaw04_ExprBoolean.j0 k a2 true a0_0 a0_1 l0_2 a1_0 a1_1 l1_2)))) else (semigrouplaw04_ExprBoolean.j0 k a2 true a0_0 a0_1 l0_2 a1_0 a1_1 l1_2))) else (semigrouplaw04_ExprBoolean.j0 k a2 true a0_0 a0_1 l0_2 a1_0 a1_1 l1_2))) = some r := h
 clear h
 have HC4 := Aside0.mk H
 clear H
 go_enter Try.func9, Try.ntmps9
 go_upto_region 1 with (first | ((with_reducible refine gate_dst (N := 3) rfl ?_); (try (refine gate_guard (by rfl) ?_; dsimp only)); refine box_event ?hg (N := 3) ?hd (cs := #[.int .i64 a0_0, .int .i64 a0_1, .slice A0_2 l0_2.length c0_2]) (t := 24) ?hr ?_; (case hd => rfl); (case hg => rfl); (case hr => first | (go_simp; done) | (go_simp; rfl)); intro gb414 hg w5 hbox hb; have n0_ := Aside0.mk (Kd.V_below (Kd.V_elderB (by (with_reducible repeat (first | apply Kd.V_alloc | apply Kd.V_drewN | apply Kd.V_drew)); exact HO0_2.out) gb414 (Nat.le_of_eq hg.symm)) hb); have n1_ := Aside0.mk (Kd.V_below (Kd.V_elderB (by (with_reducible repeat (first | apply Kd.V_alloc | apply Kd.V_drewN | apply Kd.V_drew)); exact HO1_2.out) gb414 (Nat.le_of_eq hg.symm)) hb); have n2_ := Aside0.mk (below_step (bB) hb); have n3_ := Aside0.mk (hbox); have n4_ := Aside0.mk ((by rw [hg]; exact (below_size (bB)) : w.heap.size ≤ gb414)); have n5_ := Aside0.mk ((by rw [hg]; exact (below_size (bB)) : w.heap.size ≤ gb414)); clear HO0_2; clear HO1_2; clear HB; have HO0_2 := n0_; have HO1_2 := n1_; have HB := n2_; have BK414 := n3_; have GW414 := n4_; have GE414 := n5_; clear n0_ n1_ n2_ n3_ n4_ n5_; clear hb hbox hg) | ((with_reducible refine gate_dst (N := 4) rfl ?_); (try (refine gate_guard (by rfl) ?_; dsimp only)); refine box_event ?hg (N := 4) ?hd (cs := #[.int .i64 a1_0, .int .i64 a1_1, .slice A1_2 l1_2.length c1_2]) (t := 24) ?hr ?_; (case hd => rfl); (case hg => rfl); (case hr => first | (go_simp; done) | (go_simp; rfl)); intro gb415 hg w6 hbox hb; have n0_ := Aside0.mk (Kd.V_below (Kd.V_elderB (by (with_reducible repeat (first | apply Kd.V_alloc | apply Kd.V_drewN | apply Kd.V_drew)); exact HO0_2.out) gb415 (Nat.le_of_eq hg.symm)) hb); have n1_ := Aside0.mk (Kd.V_below (Kd.V_elderB (by (with_reducible repeat (first | apply Kd.V_alloc | apply Kd.V_drewN | apply Kd.V_drew)); exact HO1_2.out) gb415 (Nat.le_of_eq hg.symm)) hb); have n2_ := Aside0.mk (blk_below (g := gb414) (o := .cells #[.int .i64 a0_0, .int .i64 a0_1, .slice A0_2 l0_2.length c0_2] 24 (0, 0)) (bK) hb); have n3_ := Aside0.mk (below_step (bB) hb); have n4_ := Aside0.mk (hbox); have n5_ := Aside0.mk ((by rw [hg]; exact (below_size (bB)) : w.heap.size ≤ gb415)); have n6_ := Aside0.mk ((by rw [hg]; exact (below_size (bB)) : w.heap.size ≤ gb415)); have n7_ := Aside0.mk ((by rw [hg]; exact Nat.ne_of_lt (blk_lt (g := gb414) (o := .cells #[.int .i64 a0_0, .int .i64 a0_1, .slice A0_2 l0_2.length c0_2] 24 (0, 0)) (bK)) : gb414 ≠ gb415)); have n8_ := Aside0.mk ((by rw [hg]; exact Nat.ne_of_gt (blk_lt (g := gb414) (o := .cells #[.int .i64 a0_0, .int .i64 a0_1, .slice A0_2 l0_2.length c0_2] 24 (0, 0)) (bK)) : gb415 ≠ gb414)); clear HO0_2; clear HO1_2; clear BK414; clear HB; have HO0_2 := n0_; have HO1_2 := n1_; have BK414 := n2_; have HB := n3_; have BK415 := n4_; have GW415 := n5_; have GE415 := n6_; have NB414_415 := n7_; have NB415_414 := n8_; clear n0_ n1_ n2_ n3_ n4_ n5_ n6_ n7_ n8_; clear hb hbox hg))
 (try simp only [Act.put, List.setIfInBounds_toArray, List.set_cons_zero, List.set_cons_succ])
 go_cut [39] (fun v39 wc => ∃ (kq : Nat) (x39_3 : Bool), v39 = .bool x39_3 ∧ Aside0 (semigrouplaw04_ExprBoolean.j0 kq a2 x39_3 a0_0 a0_1 l0_2 a1_0 a1_1 l1_2 = some r) ∧ Aside0 (kq ≤ k) ∧ Aside0 (Kd.V k24 24 wc w.heap.size (fun k_ => ((P0_2_ k_ ∨ P1_2_ k_) ∨ w.heap.size ≤ k_) ∧ k_ ≠ gb414 ∧ k_ ≠ gb415) (.slice A0_2 l0_2.length c0_2) l0_2) ∧ Aside0 (Kd.V k24 24 wc w.heap.size (fun k_ => ((P0_2_ k_ ∨ P1_2_ k_) ∨ w.heap.size ≤ k_) ∧ k_ ≠ gb414 ∧ k_ ≠ gb415) (.slice A1_2 l1_2.length c1_2) l1_2) ∧ Aside0 (wc.heap[gb414]? = some (.cells #[.int .i64 a0_0, .int .i64 a0_1, (.slice A0_2 l0_2.length c0_2)] 24 (0, 0))) ∧ Aside0 (wc.heap[gb415]? = some (.cells #[.int .i64 a1_0, .int .i64 a1_1, (.slice A1_2 l1_2.length c1_2)] 24 (0, 0))) ∧ Aside0 (Below w.heap.size w wc))
 case first =>
  have H := HC4.out
  clear HC4
  replace H := Option.bind_eq_some_iff.mp H
  obtain ⟨t416, A70, H⟩ := H
  replace H : (if t416 = true then ((semigrouplaw04_little.f k a1_0 a1_1 l1_2 40).bind fun t417 => (if t417 = true then (if (a2.size : Int) > 8 then (semigrouplaw04_ExprBoolean.j0 k a2 true a0_0 a0_1 l0_2 a1_0 a1_1 l1_2) else ((semigroupref01_Valid.f k a2 6).bind fun t418 => (if t418 = true then ((semigroupref04_Depth.f k a0_0 a0_1 l0_2).bind fun t419 => (if t419 ≥ 40 then (semigrouplaw04_ExprBoolean.j0 k a2 true a0_0 a0_1 l0_2 a1_0 a1_1 l1_2) else ((semigroupref04_Depth.f k a1_0 a1_1 l1_2).bind fun t420 => (semigrouplaw04_ExprBoolean.j0 k a2 (decide (t420 ≥ 40)) a0_0 a0_1 l0_2 a1_0 a1_1 l1_2)))) else (semigrouplaw04_ExprBoolean.j0 k a2 true a0_0 a0_1 l0_2 a1_0 a1_1 l1_2)))) else (semigrouplaw04_ExprBoolean.j0 k a2 true a0_0 a0_1 l0_2 a1_0 a1_1 l1_2))) else (semigrouplaw04_ExprBoolean.j0 k a2 true a0_0 a0_1 l0_2 a1_0 a1_1 l1_2)) = some r := H
  have A7 := Aside0.mk A70
  clear A70
  by_cases c8 : t416 = true
  ·subst c8
   have H1 : ((semigrouplaw04_little.f k a1_0 a1_1 l1_2 40).bind fun t417 => (if t417 = true then (if (a2.size : Int) > 8 then (semigrouplaw04_ExprBoolean.j0 k a2 true a0_0 a0_1 l0_2 a1_0 a1_1 l1_2) else ((semigroupref01_Valid.f k a2 6).bind fun t418 => (if t418 = true then ((semigroupref04_Depth.f k a0_0 a0_1 l0_2).bind fun t419 => (if t419 ≥ 40 then (semigrouplaw04_ExprBoolean.j0 k a2 true a0_0 a0_1 l0_2 a1_0 a1_1 l1_2) else ((semigroupref04_Depth.f k a1_0 a1_1 l1_2).bind fun t420 => (semigrouplaw04_ExprBoolean.j0 k a2 (decide (t420 ≥ 40)) a0_0 a0_1 l0_2 a1_0 a1_1 l1_2)))) else (semigrouplaw04_ExprBoolean.j0 k a2 true a0_0 a0_1 l0_2 a1_0 a1_1 l1_2)))) else (semigrouplaw04_ExprBoolean.j0 k a2 true a0_0 a0_1 l0_2 a1_0 a1_1 l1_2))) = some r := by rw [if_pos rfl] at H; exact H
   clear H
   have H := H1
   clear H1
   replace H := Option.bind_eq_some_iff.mp H
   obtain ⟨t417, A90, H⟩ := H
   replace H : (if t417 = true then (if (a2.size : Int) > 8 then (semigrouplaw04_ExprBoolean.j0 k a2 true a0_0 a0_1 l0_2 a1_0 a1_1 l1_2) else ((semigroupref01_Valid.f k a2 6).bind fun t418 => (if t418 = true then ((semigroupref04_Depth.f k a0_0 a0_1 l0_2).bind fun t419 => (if t419 ≥ 40 then (semigrouplaw04_ExprBoolean.j0 k a2 true a0_0 a0_1 l0_2 a1_0 a1_1 l1_2) else ((semigroupref04_Depth.f k a1_0 a1_1 l1_2).bind fun t420 => (semigrouplaw04_ExprBoolean.j0 k a2 (decide (t420 ≥ 40)) a0_0 a0_1 l0_2 a1_0 a1_1 l1_2)))) else (semigrouplaw04_ExprBoolean.j0 k a2 true a0_0 a0_1 l0_2 a1_0 a1_1 l1_2)))) else (semigrouplaw04_ExprBoolean.j0 k a2 true a0_0 a0_1 l0_2 a1_0 a1_1 l1_2)) = some r := H
   have A9 := Aside0.mk A90
   clear A90
   by_cases c10 : t417 = true
   ·subst c10
    have H1 : (if (a2.size : Int) > 8 then (semigrouplaw04_ExprBoolean.j0 k a2 true a0_0 a0_1 l0_2 a1_0 a1_1 l1_2) else ((semigroupref01_Valid.f k a2 6).bind fun t418 => (if t418 = true then ((semigroupref04_Depth.f k a0_0 a0_1 l0_2).bind fun t419 => (if t419 ≥ 40 then (semigrouplaw04_ExprBoolean.j0 k a2 true a0_0 a0_1 l0_2 a1_0 a1_1 l1_2) else ((semigroupref04_Depth.f k a1_0 a1_1 l1_2).bind fun t420 => (semigrouplaw04_ExprBoolean.j0 k a2 (decide (t420 ≥ 40)) a0_0 a0_1 l0_2 a1_0 a1_1 l1_2)))) else (semigrouplaw04_ExprBoolean.j0 k a2 true a0_0 a0_1 l0_2 a1_0 a1_1 l1_2)))) = some r := by rw [if_pos rfl] at H; exact H
    clear H
    have H := H1
    clear H1
    have HC11 := Aside0.mk H
    clear H
    have hnb12 := NB414_415.out
    have hnc12 := NB415_414.out
    have hcz13_0 : w6.cell? ⟨gb414, 0, none⟩ = some (.int .i64 a0_0) := (blk_cell BK414.out 0).trans rfl
    have hcz13_1 : w6.cell? ⟨gb414, 1, none⟩ = some (.int .i64 a0_1) := (blk_cell BK414.out 1).trans rfl
    have hcz13_2 : w6.cell? ⟨gb414, 2, none⟩ = some (.slice A0_2 l0_2.length c0_2) := (blk_cell BK414.out 2).trans rfl
    have hfz13_0 := blk_frozen BK414.out 0
    have hfz13_1 := blk_frozen BK414.out 1
    have hfz13_2 := blk_frozen BK414.out 2
    go_wp2_with (first | ((with_reducible refine gate_callee (f := 37) rfl ?_); refine goesL_ (some 13) rfl rfl Try.func37 (by kernel_rfl) rfl #[.agg #[.int .i64 a0_0, .int .i64 a0_1, .slice A0_2 l0_2.length c0_2], .int .i64 40] rfl (by (try simp only [List.map_toArray, List.map_cons, List.map_nil]); first | done | rfl | (simp only [List.length_drop, List.length_take]; rfl) | (simp only [Int.ofNat_lt, Int.ofNat_le]; rfl)) ?_; (with_reducible refine (semigrouplaw04_little.calls k a0_0 a0_1 _ _ l0_2 40 true _ ?side1 ?side2 A7.out).mono ?_); (case side1 => repeat (first | exact (Kd.V_reads' HO0_2.out).2.2 | (with_reducible refine Kd.C_alloc ?_ _) | (with_reducible refine Kd.C_drewN ?_ _) | (with_reducible refine Kd.C_drew ?_))); (case side2 => exact (Kd.V_reads' HO0_2.out).2.1); rintro e w14 ⟨rfl, hb⟩; refine ⟨_, rfl, ?_⟩; have n0_ := Aside0.mk (Kd.V_below (by (with_reducible repeat (first | apply Kd.V_alloc | apply Kd.V_drewN | apply Kd.V_drew)); exact HO0_2.out) hb); have n1_ := Aside0.mk (Kd.V_below (by (with_reducible repeat (first | apply Kd.V_alloc | apply Kd.V_drewN | apply Kd.V_drew)); exact HO1_2.out) hb); have n2_ := Aside0.mk (blk_below (g := gb414) (o := .cells #[.int .i64 a0_0, .int .i64 a0_1, .slice A0_2 l0_2.length c0_2] 24 (0, 0)) (bK) hb); have n3_ := Aside0.mk (blk_below (g := gb415) (o := .cells #[.int .i64 a1_0, .int .i64 a1_1, .slice A1_2 l1_2.length c1_2] 24 (0, 0)) (bK) hb); have n4_ := Aside0.mk (below_step (bB) hb); clear HO0_2; clear HO1_2; clear BK414; clear BK415; clear HB; have HO0_2 := n0_; have HO1_2 := n1_; have BK414 := n2_; have BK415 := n3_; have HB := n4_; clear n0_ n1_ n2_ n3_ n4_; (try clear hb); (try clear hb2); (try clear hk); (try clear hi); have hcz15_0 : w14.cell? ⟨gb415, 0, none⟩ = some (.int .i64 a1_0) := (blk_cell BK415.out 0).trans rfl; have hcz15_1 : w14.cell? ⟨gb415, 1, none⟩ = some (.int .i64 a1_1) := (blk_cell BK415.out 1).trans rfl; have hcz15_2 : w14.cell? ⟨gb415, 2, none⟩ = some (.slice A1_2 l1_2.length c1_2) := (blk_cell BK415.out 2).trans rfl; have hfz15_0 := blk_frozen BK415.out 0; have hfz15_1 := blk_frozen BK415.out 1; have hfz15_2 := blk_frozen BK415.out 2) | (go_at_call 37; (with_reducible refine (semigrouplaw04_little.calls k a1_0 a1_1 _ _ l1_2 40 true _ ?side1 ?side2 A9.out).mono ?_); (case side1 => repeat (first | exact (Kd.V_reads' HO1_2.out).2.2 | (with_reducible refine Kd.C_alloc ?_ _) | (with_reducible refine Kd.C_drewN ?_ _) | (with_reducible refine Kd.C_drew ?_))); (case side2 => exact (Kd.V_reads' HO1_2.out).2.1); rintro e w16 ⟨rfl, hb⟩; have n0_ := Aside0.mk (Kd.V_below (by (with_reducible repeat (first | apply Kd.V_alloc | apply Kd.V_drewN | apply Kd.V_drew)); exact HO0_2.out) hb); have n1_ := Aside0.mk (Kd.V_below (by (with_reducible repeat (first | apply Kd.V_alloc | apply Kd.V_drewN | apply Kd.V_drew)); exact HO1_2.out) hb); have n2_ := Aside0.mk (blk_below (g := gb414) (o := .cells #[.int .i64 a0_0, .int .i64 a0_1, .slice A0_2 l0_2.length c0_2] 24 (0, 0)) (bK) hb); have n3_ := Aside0.mk (blk_below (g := gb415) (o := .cells #[.int .i64 a1_0, .int .i64 a1_1, .slice A1_2 l1_2.length c1_2] 24 (0, 0)) (bK) hb); have n4_ := Aside0.mk (below_step (bB) hb); clear HO0_2; clear HO1_2; clear BK414; clear BK415; clear HB; have HO0_2 := n0_; have HO1_2 := n1_; have BK414 := n2_; have BK415 := n3_; have HB := n4_; clear n0_ n1_ n2_ n3_ n4_; (try clear hb); (try clear hb2); (try clear hk); (try clear hi); refine Go.Proofs.YtjofkebiacaciaaW.PrintWords.FootX.wall_ ?_))
    refine ⟨?_⟩
    (try simp only [Act.put, List.setIfInBounds_toArray, List.set_cons_zero, List.set_cons_succ])
    have H := HC11.out
    clear HC11
    try clear c8
    try clear c10
    try clear hcz13_0
    try clear hcz13_1
    try clear hcz13_2
    try clear hcz15_0
    try clear hcz15_1
    try clear hcz15_2
    try clear hfz13_0
    try clear hfz13_1
    try clear hfz13_2
    try clear hfz15_0
    try clear hfz15_1
    try clear hfz15_2
    by_cases c17 : (a2.size : Int) > 8
    ·rw [if_pos c17] at H
     have c17b0 : decide (8 < (a2.size : Int)) = true := decide_eq_true c17
     have c17b1 : decide (8 < a2.size) = true := decide_eq_true (by omega)
     clear c17
     (first | rw [c17b0] | (simp only [i64_w, i32_w]; rw [c17b0]) | skip)
     have H' := Aside0.mk H
     clear H
     go_wp2
     go_meet
     case rel => exact ⟨_, (true), (by first | rfl | (simp; done) | (simp [*]; done)), H', ⟨by first | omega | exact Nat.le_refl _⟩, ⟨by (with_reducible repeat (first | apply Kd.V_alloc | apply Kd.V_drewN | apply Kd.V_drew)); exact Kd.V_mono HO0_2.out (fun _ hk => ⟨hk.1.1, ⟨hk.1.2, hk.2⟩⟩)⟩, ⟨by (with_reducible repeat (first | apply Kd.V_alloc | apply Kd.V_drewN | apply Kd.V_drew)); exact Kd.V_mono HO1_2.out (fun _ hk => ⟨hk.1.1, ⟨hk.1.2, hk.2⟩⟩)⟩, ⟨bK⟩, ⟨bK⟩, ⟨bB⟩⟩
    ·rw [if_neg c17] at H
     have c17b0 : decide (8 < (a2.size : Int)) = false := decide_eq_false c17
     have c17b1 : decide (8 < a2.size) = false := decide_eq_false (by omega)
     clear c17
     (first | rw [c17b0] | (simp only [i64_w, i32_w]; rw [c17b0]) | skip)
     replace H := Option.bind_eq_some_iff.mp H
     obtain ⟨t418, A180, H⟩ := H
     replace H : (if t418 = true then ((semigroupref04_Depth.f k a0_0 a0_1 l0_2).bind fun t419 => (if t419 ≥ 40 then (semigrouplaw04_ExprBoolean.j0 k a2 true a0_0 a0_1 l0_2 a1_0 a1_1 l1_2) else ((semigroupref04_Depth.f k a1_0 a1_1 l1_2).bind fun t420 => (semigrouplaw04_ExprBoolean.j0 k a2 (decide (t420 ≥ 40)) a0_0 a0_1 l0_2 a1_0 a1_1 l1_2)))) else (semigrouplaw04_ExprBoolean.j0 k a2 true a0_0 a0_1 l0_2 a1_0 a1_1 l1_2)) = some r := H
     have A18 := Aside0.mk A180
     clear A180
     by_cases c19 : t418 = true
     ·subst c19
      have H1 : ((semigroupref04_Depth.f k a0_0 a0_1 l0_2).bind fun t419 => (if t419 ≥ 40 then (semigrouplaw04_ExprBoolean.j0 k a2 true a0_0 a0_1 l0_2 a1_0 a1_1 l1_2) else ((semigroupref04_Depth.f k a1_0 a1_1 l1_2).bind fun t420 => (semigrouplaw04_ExprBoolean.j0 k a2 (decide (t420 ≥ 40)) a0_0 a0_1 l0_2 a1_0 a1_1 l1_2)))) = some r := by rw [if_pos rfl] at H; exact H
      clear H
      have H := H1
      clear H1
      replace H := Option.bind_eq_some_iff.mp H
      obtain ⟨t419, A200, H⟩ := H
      replace H : (if t419 ≥ 40 then (semigrouplaw04_ExprBoolean.j0 k a2 true a0_0 a0_1 l0_2 a1_0 a1_1 l1_2) else ((semigroupref04_Depth.f k a1_0 a1_1 l1_2).bind fun t420 => (semigrouplaw04_ExprBoolean.j0 k a2 (decide (t420 ≥ 40)) a0_0 a0_1 l0_2 a1_0 a1_1 l1_2))) = some r := H
      have A20 := Aside0.mk A200
      clear A200
      have HC21 := Aside0.mk H
      clear H
      go_wp2_with (first | (go_at_call 36; (with_reducible refine (semigroupref01_Valid.calls k a2 6 true _ A18.out).mono ?_); rintro e w' ⟨rfl, ⟨nd, rfl⟩⟩; have hnb22 := NB414_415.out; have hnc22 := NB415_414.out; have hcz23_0 : w16.cell? ⟨gb414, 0, none⟩ = some (.int .i64 a0_0) := (blk_cell BK414.out 0).trans rfl; have hcz23_1 : w16.cell? ⟨gb414, 1, none⟩ = some (.int .i64 a0_1) := (blk_cell BK414.out 1).trans rfl; have hcz23_2 : w16.cell? ⟨gb414, 2, none⟩ = some (.slice A0_2 l0_2.length c0_2) := (blk_cell BK414.out 2).trans rfl; have hfz23_0 := blk_frozen BK414.out 0; have hfz23_1 := blk_frozen BK414.out 1; have hfz23_2 := blk_frozen BK414.out 2) | (go_at_call 31; (with_reducible refine (semigroupref04_Depth.calls k a0_0 a0_1 _ _ l0_2 t419 _ ?side1 ?side2 A20.out).mono ?_); (case side1 => repeat (first | exact (Kd.V_reads' HO0_2.out).2.2 | (with_reducible refine Kd.C_alloc ?_ _) | (with_reducible refine Kd.C_drewN ?_ _) | (with_reducible refine Kd.C_drew ?_))); (case side2 => exact (Kd.V_reads' HO0_2.out).2.1); rintro e w24 ⟨rfl, hb⟩; have n0_ := Aside0.mk (Kd.V_below (by (with_reducible repeat (first | apply Kd.V_alloc | apply Kd.V_drewN | apply Kd.V_drew)); exact HO0_2.out) hb); have n1_ := Aside0.mk (Kd.V_below (by (with_reducible repeat (first | apply Kd.V_alloc | apply Kd.V_drewN | apply Kd.V_drew)); exact HO1_2.out) hb); have n2_ := Aside0.mk (blk_below (g := gb414) (o := .cells #[.int .i64 a0_0, .int .i64 a0_1, .slice A0_2 l0_2.length c0_2] 24 (0, 0)) (bK) hb); have n3_ := Aside0.mk (blk_below (g := gb415) (o := .cells #[.int .i64 a1_0, .int .i64 a1_1, .slice A1_2 l1_2.length c1_2] 24 (0, 0)) (bK) hb); have n4_ := Aside0.mk (below_step (bB) hb); clear HO0_2; clear HO1_2; clear BK414; clear BK415; clear HB; have HO0_2 := n0_; have HO1_2 := n1_; have BK414 := n2_; have BK415 := n3_; have HB := n4_; clear n0_ n1_ n2_ n3_ n4_; (try clear hb); (try clear hb2); (try clear hk); (try clear hi); refine Go.Proofs.YtjofkebiacaciaaW.PrintWords.FootX.wall_ ?_))
      refine ⟨?_⟩
      (try simp only [Act.put, List.setIfInBounds_toArray, List.set_cons_zero, List.set_cons_succ])
      have H := HC21.out
      clear HC21
      try clear c8
      try clear c10
      try clear c17
      try clear c17b0
      try clear c17b1
      try clear c19
      try clear hcz13_0
      try clear hcz13_1
      try clear hcz13_2
      try clear hcz15_0
      try clear hcz15_1
      try clear hcz15_2
      try clear hcz23_0
      try clear hcz23_1
      try clear hcz23_2
      try clear hfz13_0
      try clear hfz13_1
      try clear hfz13_2
      try clear hfz15_0
      try clear hfz15_1
      try clear hfz15_2
      try clear hfz23_0
      try clear hfz23_1
      try clear hfz23_2
      by_cases c25 : t419 ≥ 40
      ·rw [if_pos c25] at H
       have c25b0 : decide (40 ≤ t419) = true := decide_eq_true c25
       clear c25
       (first | rw [c25b0] | (simp only [i64_w, i32_w]; rw [c25b0]) | skip)
       have H' := Aside0.mk H
       clear H
       go_wp2
       go_meet
       case rel => exact ⟨_, (true), (by first | rfl | (simp; done) | (simp [*]; done)), H', ⟨by first | omega | exact Nat.le_refl _⟩, ⟨by (with_reducible repeat (first | apply Kd.V_alloc | apply Kd.V_drewN | apply Kd.V_drew)); exact Kd.V_mono HO0_2.out (fun _ hk => ⟨hk.1.1, ⟨hk.1.2, hk.2⟩⟩)⟩, ⟨by (with_reducible repeat (first | apply Kd.V_alloc | apply Kd.V_drewN | apply Kd.V_drew)); exact Kd.V_mono HO1_2.out (fun _ hk => ⟨hk.1.1, ⟨hk.1.2, hk.2⟩⟩)⟩, ⟨bK⟩, ⟨bK⟩, ⟨bB⟩⟩
      ·rw [if_neg c25] at H
       have c25b0 : decide (40 ≤ t419) = false := decide_eq_false c25
       clear c25
       (first | rw [c25b0] | (simp only [i64_w, i32_w]; rw [c25b0]) | skip)
       replace H := Option.bind_eq_some_iff.mp H
       obtain ⟨t420, A260, H⟩ := H
       replace H : (semigrouplaw04_ExprBoolean.j0 k a2 (decide (t420 ≥ 40)) a0_0 a0_1 l0_2 a1_0 a1_1 l1_2) = some r := H
       have A26 := Aside0.mk A260
       clear A260
       have H' := Aside0.mk H
       clear H
       have hnb27 := NB415_414.out
       have hnc27 := NB414_415.out
       have hcz28_0 : w24.cell? ⟨gb415, 0, none⟩ = some (.int .i64 a1_0) := (blk_cell BK415.out 0).trans rfl
       have hcz28_1 : w24.cell? ⟨gb415, 1, none⟩ = some (.int .i64 a1_1) := (blk_cell BK415.out 1).trans rfl
       have hcz28_2 : w24.cell? ⟨gb415, 2, none⟩ = some (.slice A1_2 l1_2.length c1_2) := (blk_cell BK415.out 2).trans rfl
       have hfz28_0 := blk_frozen BK415.out 0
       have hfz28_1 := blk_frozen BK415.out 1
       have hfz28_2 := blk_frozen BK415.out 2
       go_wp2_with (first | (go_at_call 31; (with_reducible refine (semigroupref04_Depth.calls k a1_0 a1_1 _ _ l1_2 t420 _ ?side1 ?side2 A26.out).mono ?_); (case side1 => repeat (first | exact (Kd.V_reads' HO1_2.out).2.2 | (with_reducible refine Kd.C_alloc ?_ _) | (with_reducible refine Kd.C_drewN ?_ _) | (with_reducible refine Kd.C_drew ?_))); (case side2 => exact (Kd.V_reads' HO1_2.out).2.1); rintro e w29 ⟨rfl, hb⟩; have n0_ := Aside0.mk (Kd.V_below (by (with_reducible repeat (first | apply Kd.V_alloc | apply Kd.V_drewN | apply Kd.V_drew)); exact HO0_2.out) hb); have n1_ := Aside0.mk (Kd.V_below (by (with_reducible repeat (first | apply Kd.V_alloc | apply Kd.V_drewN | apply Kd.V_drew)); exact HO1_2.out) hb); have n2_ := Aside0.mk (blk_below (g := gb414) (o := .cells #[.int .i64 a0_0, .int .i64 a0_1, .slice A0_2 l0_2.length c0_2] 24 (0, 0)) (bK) hb); have n3_ := Aside0.mk (blk_below (g := gb415) (o := .cells #[.int .i64 a1_0, .int .i64 a1_1, .slice A1_2 l1_2.length c1_2] 24 (0, 0)) (bK) hb); have n4_ := Aside0.mk (below_step (bB) hb); clear HO0_2; clear HO1_2; clear BK414; clear BK415; clear HB; have HO0_2 := n0_; have HO1_2 := n1_; have BK414 := n2_; have BK415 := n3_; have HB := n4_; clear n0_ n1_ n2_ n3_ n4_; (try clear hb); (try clear hb2); (try clear hk); (try clear hi)))
       go_meet
       case rel => exact ⟨_, (decide (t420 ≥ 40)), (by first | rfl | (simp; done) | (simp [*]; done)), H', ⟨by first | omega | exact Nat.le_refl _⟩, ⟨by (with_reducible repeat (first | apply Kd.V_alloc | apply Kd.V_drewN | apply Kd.V_drew)); exact Kd.V_mono HO0_2.out (fun _ hk => ⟨hk.1.1, ⟨hk.1.2, hk.2⟩⟩)⟩, ⟨by (with_reducible repeat (first | apply Kd.V_alloc | apply Kd.V_drewN | apply Kd.V_drew)); exact Kd.V_mono HO1_2.out (fun _ hk => ⟨hk.1.1, ⟨hk.1.2, hk.2⟩⟩)⟩, ⟨bK⟩, ⟨bK⟩, ⟨bB⟩⟩
     ·replace c19 := Bool.eq_false_iff.mpr c19
      subst c19
      have H1 : (semigrouplaw04_ExprBoolean.j0 k a2 true a0_0 a0_1 l0_2 a1_0 a1_1 l1_2) = some r := by rw [if_neg (show ¬ (false = true) by decide)] at H; exact H
      clear H
      have H := H1
      clear H1
      have H' := Aside0.mk H
      clear H
      go_wp2_with (first | (go_at_call 36; (with_reducible refine (semigroupref01_Valid.calls k a2 6 false _ A18.out).mono ?_); rintro e w' ⟨rfl, ⟨nd, rfl⟩⟩))
      go_meet
      case rel => exact ⟨_, (true), (by first | rfl | (simp; done) | (simp [*]; done)), H', ⟨by first | omega | exact Nat.le_refl _⟩, ⟨by (with_reducible repeat (first | apply Kd.V_alloc | apply Kd.V_drewN | apply Kd.V_drew)); exact Kd.V_mono HO0_2.out (fun _ hk => ⟨hk.1.1, ⟨hk.1.2, hk.2⟩⟩)⟩, ⟨by (with_reducible repeat (first | apply Kd.V_alloc | apply Kd.V_drewN | apply Kd.V_drew)); exact Kd.V_mono HO1_2.out (fun _ hk => ⟨hk.1.1, ⟨hk.1.2, hk.2⟩⟩)⟩, ⟨bK⟩, ⟨bK⟩, ⟨bB⟩⟩
   ·replace c10 := Bool.eq_false_iff.mpr c10
    subst c10
    have H1 : (semigrouplaw04_ExprBoolean.j0 k a2 true a0_0 a0_1 l0_2 a1_0 a1_1 l1_2) = some r := by rw [if_neg (show ¬ (false = true) by decide)] at H; exact H
    clear H
    have H := H1
    clear H1
    have H' := Aside0.mk H
    clear H
    have hnb30 := NB414_415.out
    have hnc30 := NB415_414.out
    have hcz31_0 : w6.cell? ⟨gb414, 0, none⟩ = some (.int .i64 a0_0) := (blk_cell BK414.out 0).trans rfl
    have hcz31_1 : w6.cell? ⟨gb414, 1, none⟩ = some (.int .i64 a0_1) := (blk_cell BK414.out 1).trans rfl
    have hcz31_2 : w6.cell? ⟨gb414, 2, none⟩ = some (.slice A0_2 l0_2.length c0_2) := (blk_cell BK414.out 2).trans rfl
    have hfz31_0 := blk_frozen BK414.out 0
    have hfz31_1 := blk_frozen BK414.out 1
    have hfz31_2 := blk_frozen BK414.out 2
    go_wp2_with (first | ((with_reducible refine gate_callee (f := 37) rfl ?_); refine goesL_ (some 13) rfl rfl Try.func37 (by kernel_rfl) rfl #[.agg #[.int .i64 a0_0, .int .i64 a0_1, .slice A0_2 l0_2.length c0_2], .int .i64 40] rfl (by (try simp only [List.map_toArray, List.map_cons, List.map_nil]); first | done | rfl | (simp only [List.length_drop, List.length_take]; rfl) | (simp only [Int.ofNat_lt, Int.ofNat_le]; rfl)) ?_; (with_reducible refine (semigrouplaw04_little.calls k a0_0 a0_1 _ _ l0_2 40 true _ ?side1 ?side2 A7.out).mono ?_); (case side1 => repeat (first | exact (Kd.V_reads' HO0_2.out).2.2 | (with_reducible refine Kd.C_alloc ?_ _) | (with_reducible refine Kd.C_drewN ?_ _) | (with_reducible refine Kd.C_drew ?_))); (case side2 => exact (Kd.V_reads' HO0_2.out).2.1); rintro e w32 ⟨rfl, hb⟩; refine ⟨_, rfl, ?_⟩; have n0_ := Aside0.mk (Kd.V_below (by (with_reducible repeat (first | apply Kd.V_alloc | apply Kd.V_drewN | apply Kd.V_drew)); exact HO0_2.out) hb); have n1_ := Aside0.mk (Kd.V_below (by (with_reducible repeat (first | apply Kd.V_alloc | apply Kd.V_drewN | apply Kd.V_drew)); exact HO1_2.out) hb); have n2_ := Aside0.mk (blk_below (g := gb414) (o := .cells #[.int .i64 a0_0, .int .i64 a0_1, .slice A0_2 l0_2.length c0_2] 24 (0, 0)) (bK) hb); have n3_ := Aside0.mk (blk_below (g := gb415) (o := .cells #[.int .i64 a1_0, .int .i64 a1_1, .slice A1_2 l1_2.length c1_2] 24 (0, 0)) (bK) hb); have n4_ := Aside0.mk (below_step (bB) hb); clear HO0_2; clear HO1_2; clear BK414; clear BK415; clear HB; have HO0_2 := n0_; have HO1_2 := n1_; have BK414 := n2_; have BK415 := n3_; have HB := n4_; clear n0_ n1_ n2_ n3_ n4_; (try clear hb); (try clear hb2); (try clear hk); (try clear hi); have hcz33_0 : w32.cell? ⟨gb415, 0, none⟩ = some (.int .i64 a1_0) := (blk_cell BK415.out 0).trans rfl; have hcz33_1 : w32.cell? ⟨gb415, 1, none⟩ = some (.int .i64 a1_1) := (blk_cell BK415.out 1).trans rfl; have hcz33_2 : w32.cell? ⟨gb415, 2, none⟩ = some (.slice A1_2 l1_2.length c1_2) := (blk_cell BK415.out 2).trans rfl; have hfz33_0 := blk_frozen BK415.out 0; have hfz33_1 := blk_frozen BK415.out 1; have hfz33_2 := blk_frozen BK415.out 2) | (go_at_call 37; (with_reducible refine (semigrouplaw04_little.calls k a1_0 a1_1 _ _ l1_2 40 false _ ?side1 ?side2 A9.out).mono ?_); (case side1 => repeat (first | exact (Kd.V_reads' HO1_2.out).2.2 | (with_reducible refine Kd.C_alloc ?_ _) | (with_reducible refine Kd.C_drewN ?_ _) | (with_reducible refine Kd.C_drew ?_))); (case side2 => exact (Kd.V_reads' HO1_2.out).2.1); rintro e w34 ⟨rfl, hb⟩; have n0_ := Aside0.mk (Kd.V_below (by (with_reducible repeat (first | apply Kd.V_alloc | apply Kd.V_drewN | apply Kd.V_drew)); exact HO0_2.out) hb); have n1_ := Aside0.mk (Kd.V_below (by (with_reducible repeat (first | apply Kd.V_alloc | apply Kd.V_drewN | apply Kd.V_drew)); exact HO1_2.out) hb); have n2_ := Aside0.mk (blk_below (g := gb414) (o := .cells #[.int .i64 a0_0, .int .i64 a0_1, .slice A0_2 l0_2.length c0_2] 24 (0, 0)) (bK) hb); have n3_ := Aside0.mk (blk_below (g := gb415) (o := .cells #[.int .i64 a1_0, .int .i64 a1_1, .slice A1_2 l1_2.length c1_2] 24 (0, 0)) (bK) hb); have n4_ := Aside0.mk (below_step (bB) hb); clear HO0_2; clear HO1_2; clear BK414; clear BK415; clear HB; have HO0_2 := n0_; have HO1_2 := n1_; have BK414 := n2_; have BK415 := n3_; have HB := n4_; clear n0_ n1_ n2_ n3_ n4_; (try clear hb); (try clear hb2); (try clear hk); (try clear hi)))
    go_meet
    case rel => exact ⟨_, (true), (by first | rfl | (simp; done) | (simp [*]; done)), H', ⟨by first | omega | exact Nat.le_refl _⟩, ⟨by (with_reducible repeat (first | apply Kd.V_alloc | apply Kd.V_drewN | apply Kd.V_drew)); exact Kd.V_mono HO0_2.out (fun _ hk => ⟨hk.1.1, ⟨hk.1.2, hk.2⟩⟩)⟩, ⟨by (with_reducible repeat (first | apply Kd.V_alloc | apply Kd.V_drewN | apply Kd.V_drew)); exact Kd.V_mono HO1_2.out (fun _ hk => ⟨hk.1.1, ⟨hk.1.2, hk.2⟩⟩)⟩, ⟨bK⟩, ⟨bK⟩, ⟨bB⟩⟩
  ·replace c8 := Bool.eq_false_iff.mpr c8
   subst c8
   have H1 : (semigrouplaw04_ExprBoolean.j0 k a2 true a0_0 a0_1 l0_2 a1_0 a1_1 l1_2) = some r := by rw [if_neg (show ¬ (false = true) by decide)] at H; exact H
   clear H
   have H := H1
   clear H1
   have H' := Aside0.mk H
   clear H
   have hnb35 := NB414_415.out
   have hnc35 := NB415_414.out
   have hcz36_0 : w6.cell? ⟨gb414, 0, none⟩ = some (.int .i64 a0_0) := (blk_cell BK414.out 0).trans rfl
   have hcz36_1 : w6.cell? ⟨gb414, 1, none⟩ = some (.int .i64 a0_1) := (blk_cell BK414.out 1).trans rfl
   have hcz36_2 : w6.cell? ⟨gb414, 2, none⟩ = some (.slice A0_2 l0_2.length c0_2) := (blk_cell BK414.out 2).trans rfl
   have hfz36_0 := blk_frozen BK414.out 0
   have hfz36_1 := blk_frozen BK414.out 1
   have hfz36_2 := blk_frozen BK414.out 2
   go_wp2_with (first | ((with_reducible refine gate_callee (f := 37) rfl ?_); refine goesL_ (some 13) rfl rfl Try.func37 (by kernel_rfl) rfl #[.agg #[.int .i64 a0_0, .int .i64 a0_1, .slice A0_2 l0_2.length c0_2], .int .i64 40] rfl (by (try simp only [List.map_toArray, List.map_cons, List.map_nil]); first | done | rfl | (simp only [List.length_drop, List.length_take]; rfl) | (simp only [Int.ofNat_lt, Int.ofNat_le]; rfl)) ?_; (with_reducible refine (semigrouplaw04_little.calls k a0_0 a0_1 _ _ l0_2 40 false _ ?side1 ?side2 A7.out).mono ?_); (case side1 => repeat (first | exact (Kd.V_reads' HO0_2.out).2.2 | (with_reducible refine Kd.C_alloc ?_ _) | (with_reducible refine Kd.C_drewN ?_ _) | (with_reducible refine Kd.C_drew ?_))); (case side2 => exact (Kd.V_reads' HO0_2.out).2.1); rintro e w37 ⟨rfl, hb⟩; refine ⟨_, rfl, ?_⟩; have n0_ := Aside0.mk (Kd.V_below (by (with_reducible repeat (first | apply Kd.V_alloc | apply Kd.V_drewN | apply Kd.V_drew)); exact HO0_2.out) hb); have n1_ := Aside0.mk (Kd.V_below (by (with_reducible repeat (first | apply Kd.V_alloc | apply Kd.V_drewN | apply Kd.V_drew)); exact HO1_2.out) hb); have n2_ := Aside0.mk (blk_below (g := gb414) (o := .cells #[.int .i64 a0_0, .int .i64 a0_1, .slice A0_2 l0_2.length c0_2] 24 (0, 0)) (bK) hb); have n3_ := Aside0.mk (blk_below (g := gb415) (o := .cells #[.int .i64 a1_0, .int .i64 a1_1, .slice A1_2 l1_2.length c1_2] 24 (0, 0)) (bK) hb); have n4_ := Aside0.mk (below_step (bB) hb); clear HO0_2; clear HO1_2; clear BK414; clear BK415; clear HB; have HO0_2 := n0_; have HO1_2 := n1_; have BK414 := n2_; have BK415 := n3_; have HB := n4_; clear n0_ n1_ n2_ n3_ n4_; (try clear hb); (try clear hb2); (try clear hk); (try clear hi)))
   go_meet
   case rel => exact ⟨_, (true), (by first | rfl | (simp; done) | (simp [*]; done)), H', ⟨by first | omega | exact Nat.le_refl _⟩, ⟨by (with_reducible repeat (first | apply Kd.V_alloc | apply Kd.V_drewN | apply Kd.V_drew)); exact Kd.V_mono HO0_2.out (fun _ hk => ⟨hk.1.1, ⟨hk.1.2, hk.2⟩⟩)⟩, ⟨by (with_reducible repeat (first | apply Kd.V_alloc | apply Kd.V_drewN | apply Kd.V_drew)); exact Kd.V_mono HO1_2.out (fun _ hk => ⟨hk.1.1, ⟨hk.1.2, hk.2⟩⟩)⟩, ⟨bK⟩, ⟨bK⟩, ⟨bB⟩⟩
 case rest =>
  clear HC4
  obtain ⟨kq, x39_3, rfl, HA, HJ3, HO_415002, HO_416002, BK414, BK415, HB⟩ := hcut
  cases kq with
  | zero => exact absurd HA.out (by simp [semigrouplaw04_ExprBoolean.j0])
  | succ kj3 =>
   have H := HA.out
   clear HA
   simp only [semigrouplaw04_ExprBoolean.j0] at H
   by_cases c38 : x39_3 = true
   ·subst c38
    have H1 : ((semigrouplaw04_awake.f kj3).bind fun t421 => (some t421)) = some r := by rw [if_pos rfl] at H; exact H
    clear H
    have H := H1
    clear H1
    replace H := Option.bind_eq_some_iff.mp H
    obtain ⟨t421, A390, H⟩ := H
    replace H : (some t421) = some r := H
    have A39 := Aside0.mk A390
    clear A390
    obtain rfl := Option.some.inj H
    go_wp2_with (first | ((with_reducible refine gate_callee (f := 17) rfl ?_); refine goesL_ (some 40) rfl rfl Try.func17 (by kernel_rfl) rfl #[] rfl (by (try simp only [List.map_toArray, List.map_cons, List.map_nil]); first | done | rfl | (simp only [List.length_drop, List.length_take]; rfl) | (simp only [Int.ofNat_lt, Int.ofNat_le]; rfl)) ?_; (with_reducible refine (semigrouplaw04_awake.calls kj3  t421 _ A39.out).mono ?_); rintro e w40 ⟨rfl, hb⟩; refine ⟨_, rfl, ?_⟩; have n0_ := Aside0.mk (Kd.V_below (by (with_reducible repeat (first | apply Kd.V_alloc | apply Kd.V_drewN | apply Kd.V_drew)); exact HO_415002.out) hb); have n1_ := Aside0.mk (Kd.V_below (by (with_reducible repeat (first | apply Kd.V_alloc | apply Kd.V_drewN | apply Kd.V_drew)); exact HO_416002.out) hb); have n2_ := Aside0.mk (blk_below (g := gb414) (o := .cells #[.int .i64 a0_0, .int .i64 a0_1, .slice A0_2 l0_2.length c0_2] 24 (0, 0)) (bK) hb); have n3_ := Aside0.mk (blk_below (g := gb415) (o := .cells #[.int .i64 a1_0, .int .i64 a1_1, .slice A1_2 l1_2.length c1_2] 24 (0, 0)) (bK) hb); have n4_ := Aside0.mk (below_step (bB) hb); clear HO_415002; clear HO_416002; clear BK414; clear BK415; clear HB; have HO_415002 := n0_; have HO_416002 := n1_; have BK414 := n2_; have BK415 := n3_; have HB := n4_; clear n0_ n1_ n2_ n3_ n4_; (try clear hb); (try clear hb2); (try clear hk); (try clear hi)))
    go_ret
    exact ⟨by first | rfl | (simp [errW_none, errW_some] <;> rfl) | (simp [*, errW_none, errW_some] <;> rfl), bB⟩
   ·replace c38 := Bool.eq_false_iff.mpr c38
    subst c38
    have H1 : ((expr_Match.f kj3 a0_0 a0_1 l0_2 a2).bind fun t422 => ((expr_Match.f kj3 a1_0 a1_1 l1_2 a2).bind fun t423 => ((expr_Match.f kj3 4 0 (([(⟨a0_0, a0_1, l0_2⟩ : S24), (⟨a1_0, a1_1, l1_2⟩ : S24)] : List (S24))) a2).bind fun t427 => ((expr_Match.f kj3 6 0 (([(⟨a0_0, a0_1, l0_2⟩ : S24), (⟨a1_0, a1_1, l1_2⟩ : S24)] : List (S24))) a2).bind fun t431 => ((expr_Match.f kj3 8 0 (([(⟨a0_0, a0_1, l0_2⟩ : S24)] : List (S24))) a2).bind fun t435 => (if t422 = true then (if (t427 == true) = true then (if (t431 == t423) = true then (if (t435 == (!t422)) = true then ((semigrouplaw04_awake.f kj3).bind fun t436 => (some t436)) else (some false)) else (some false)) else (some false)) else (if (t427 == t423) = true then (if (t431 == false) = true then (if (t435 == (!t422)) = true then ((semigrouplaw04_awake.f kj3).bind fun t437 => (some t437)) else (some false)) else (some false)) else (some false)))))))) = some r := by rw [if_neg (show ¬ (false = true) by decide)] at H; exact H
    clear H
    have H := H1
    clear H1
    replace H := Option.bind_eq_some_iff.mp H
    obtain ⟨t422, A410, H⟩ := H
    replace H : ((expr_Match.f kj3 a1_0 a1_1 l1_2 a2).bind fun t423 => ((expr_Match.f kj3 4 0 (([(⟨a0_0, a0_1, l0_2⟩ : S24), (⟨a1_0, a1_1, l1_2⟩ : S24)] : List (S24))) a2).bind fun t427 => ((expr_Match.f kj3 6 0 (([(⟨a0_0, a0_1, l0_2⟩ : S24), (⟨a1_0, a1_1, l1_2⟩ : S24)] : List (S24))) a2).bind fun t431 => ((expr_Match.f kj3 8 0 (([(⟨a0_0, a0_1, l0_2⟩ : S24)] : List (S24))) a2).bind fun t435 => (if t422 = true then (if (t427 == true) = true then (if (t431 == t423) = true then (if (t435 == (!t422)) = true then ((semigrouplaw04_awake.f kj3).bind fun t436 => (some t436)) else (some false)) else (some false)) else (some false)) else (if (t427 == t423) = true then (if (t431 == false) = true then (if (t435 == (!t422)) = true then ((semigrouplaw04_awake.f kj3).bind fun t437 => (some t437)) else (some false)) else (some false)) else (some false))))))) = some r := H
    have A41 := Aside0.mk A410
    clear A410
    replace H := Option.bind_eq_some_iff.mp H
    obtain ⟨t423, A420, H⟩ := H
    replace H : ((expr_Match.f kj3 4 0 (([(⟨a0_0, a0_1, l0_2⟩ : S24), (⟨a1_0, a1_1, l1_2⟩ : S24)] : List (S24))) a2).bind fun t427 => ((expr_Match.f kj3 6 0 (([(⟨a0_0, a0_1, l0_2⟩ : S24), (⟨a1_0, a1_1, l1_2⟩ : S24)] : List (S24))) a2).bind fun t431 => ((expr_Match.f kj3 8 0 (([(⟨a0_0, a0_1, l0_2⟩ : S24)] : List (S24))) a2).bind fun t435 => (if t422 = true then (if (t427 == true) = true then (if (t431 == t423) = true then (if (t435 == (!t422)) = true then ((semigrouplaw04_awake.f kj3).bind fun t436 => (some t436)) else (some false)) else (some false)) else (some false)) else (if (t427 == t423) = true then (if (t431 == false) = true then (if (t435 == (!t422)) = true then ((semigrouplaw04_awake.f kj3).bind fun t437 => (some t437)) else (some false)) else (some false)) else (some false)))))) = some r := H
    have A42 := Aside0.mk A420
    clear A420
    obtain ⟨y424, hy424⟩ : ∃ y_ : List (S24), y_ = (([(⟨a0_0, a0_1, l0_2⟩ : S24), (⟨a1_0, a1_1, l1_2⟩ : S24)] : List (S24))) := ⟨_, rfl⟩
    replace H : ((expr_Match.f kj3 4 0 y424 a2).bind fun t427 => ((expr_Match.f kj3 6 0 (([(⟨a0_0, a0_1, l0_2⟩ : S24), (⟨a1_0, a1_1, l1_2⟩ : S24)] : List (S24))) a2).bind fun t431 => ((expr_Match.f kj3 8 0 (([(⟨a0_0, a0_1, l0_2⟩ : S24)] : List (S24))) a2).bind fun t435 => (if t422 = true then (if (t427 == true) = true then (if (t431 == t423) = true then (if (t435 == (!t422)) = true then ((semigrouplaw04_awake.f kj3).bind fun t436 => (some t436)) else (some false)) else (some false)) else (some false)) else (if (t427 == t423) = true then (if (t431 == false) = true then (if (t435 == (!t422)) = true then ((semigrouplaw04_awake.f kj3).bind fun t437 => (some t437)) else (some false)) else (some false)) else (some false)))))) = some r := by first | (rw [hy424]; with_reducible exact H) | (have H2_ := (Option.bind_some _ _).symm.trans H; rw [hy424]; with_reducible exact H2_) | (have H2_ := (Option.bind_some _ _).symm.trans H; with_reducible exact H2_) | with_reducible exact H | (rw [hy424]; exact H) | exact H
    have Ny424 := Aside0.mk hy424
    clear hy424
    replace H := Option.bind_eq_some_iff.mp H
    obtain ⟨t427, A430, H⟩ := H
    replace H : ((expr_Match.f kj3 6 0 (([(⟨a0_0, a0_1, l0_2⟩ : S24), (⟨a1_0, a1_1, l1_2⟩ : S24)] : List (S24))) a2).bind fun t431 => ((expr_Match.f kj3 8 0 (([(⟨a0_0, a0_1, l0_2⟩ : S24)] : List (S24))) a2).bind fun t435 => (if t422 = true then (if (t427 == true) = true then (if (t431 == t423) = true then (if (t435 == (!t422)) = true then ((semigrouplaw04_awake.f kj3).bind fun t436 => (some t436)) else (some false)) else (some false)) else (some false)) else (if (t427 == t423) = true then (if (t431 == false) = true then (if (t435 == (!t422)) = true then ((semigrouplaw04_awake.f kj3).bind fun t437 => (some t437)) else (some false)) else (some false)) else (some false))))) = some r := H
    have A43 := Aside0.mk A430
    clear A430
    obtain ⟨y428, hy428⟩ : ∃ y_ : List (S24), y_ = (([(⟨a0_0, a0_1, l0_2⟩ : S24), (⟨a1_0, a1_1, l1_2⟩ : S24)] : List (S24))) := ⟨_, rfl⟩
    replace H : ((expr_Match.f kj3 6 0 y428 a2).bind fun t431 => ((expr_Match.f kj3 8 0 (([(⟨a0_0, a0_1, l0_2⟩ : S24)] : List (S24))) a2).bind fun t435 => (if t422 = true then (if (t427 == true) = true then (if (t431 == t423) = true then (if (t435 == (!t422)) = true then ((semigrouplaw04_awake.f kj3).bind fun t436 => (some t436)) else (some false)) else (some false)) else (some false)) else (if (t427 == t423) = true then (if (t431 == false) = true then (if (t435 == (!t422)) = true then ((semigrouplaw04_awake.f kj3).bind fun t437 => (some t437)) else (some false)) else (some false)) else (some false))))) = some r := by first | (rw [hy428]; with_reducible exact H) | (have H2_ := (Option.bind_some _ _).symm.trans H; rw [hy428]; with_reducible exact H2_) | (have H2_ := (Option.bind_some _ _).symm.trans H; with_reducible exact H2_) | with_reducible exact H | (rw [hy428]; exact H) | exact H
    have Ny428 := Aside0.mk hy428
    clear hy428
    replace H := Option.bind_eq_some_iff.mp H
    obtain ⟨t431, A440, H⟩ := H
    replace H : ((expr_Match.f kj3 8 0 (([(⟨a0_0, a0_1, l0_2⟩ : S24)] : List (S24))) a2).bind fun t435 => (if t422 = true then (if (t427 == true) = true then (if (t431 == t423) = true then (if (t435 == (!t422)) = true then ((semigrouplaw04_awake.f kj3).bind fun t436 => (some t436)) else (some false)) else (some false)) else (some false)) else (if (t427 == t423) = true then (if (t431 == false) = true then (if (t435 == (!t422)) = true then ((semigrouplaw04_awake.f kj3).bind fun t437 => (some t437)) else (some false)) else (some false)) else (some false)))) = some r := H
    have A44 := Aside0.mk A440
    clear A440
    obtain ⟨y432, hy432⟩ : ∃ y_ : List (S24), y_ = (([(⟨a0_0, a0_1, l0_2⟩ : S24)] : List (S24))) := ⟨_, rfl⟩
    replace H : ((expr_Match.f kj3 8 0 y432 a2).bind fun t435 => (if t422 = true then (if (t427 == true) = true then (if (t431 == t423) = true then (if (t435 == (!t422)) = true then ((semigrouplaw04_awake.f kj3).bind fun t436 => (some t436)) else (some false)) else (some false)) else (some false)) else (if (t427 == t423) = true then (if (t431 == false) = true then (if (t435 == (!t422)) = true then ((semigrouplaw04_awake.f kj3).bind fun t437 => (some t437)) else (some false)) else (some false)) else (some false)))) = some r := by first | (rw [hy432]; with_reducible exact H) | (have H2_ := (Option.bind_some _ _).symm.trans H; rw [hy432]; with_reducible exact H2_) | (have H2_ := (Option.bind_some _ _).symm.trans H; with_reducible exact H2_) | with_reducible exact H | (rw [hy432]; exact H) | exact H
    have Ny432 := Aside0.mk hy432
    clear hy432
    replace H := Option.bind_eq_some_iff.mp H
    obtain ⟨t435, A450, H⟩ := H
    replace H : (if t422 = true then (if (t427 == true) = true then (if (t431 == t423) = true then (if (t435 == (!t422)) = true then ((semigrouplaw04_awake.f kj3).bind fun t436 => (some t436)) else (some false)) else (some false)) else (some false)) else (if (t427 == t423) = true then (if (t431 == false) = true then (if (t435 == (!t422)) = true then ((semigrouplaw04_awake.f kj3).bind fun t437 => (some t437)) else (some false)) else (some false)) else (some false))) = some r := H
    have A45 := Aside0.mk A450
    clear A450
    by_cases c46 : t422 = true
    ·subst c46
     have H1 : (if (t427 == true) = true then (if (t431 == t423) = true then (if (t435 == (!true)) = true then ((semigrouplaw04_awake.f kj3).bind fun t436 => (some t436)) else (some false)) else (some false)) else (some false)) = some r := by rw [if_pos rfl] at H; exact H
     clear H
     have H := H1
     clear H1
     have HC47 := Aside0.mk H
     clear H
     try go_wp2
     have n0_ := Aside0.mk (Kd.V_drew HO_415002.out)
     have n1_ := Aside0.mk (Kd.V_drew HO_416002.out)
     have n2_ := Aside0.mk (blk_drew BK414.out)
     have n3_ := Aside0.mk (blk_drew BK415.out)
     have n4_ := Aside0.mk (below_drew1 HB.out)
     clear HO_415002
     clear HO_416002
     clear BK414
     clear BK415
     clear HB
     have HO_415002 := n0_
     have HO_416002 := n1_
     have BK414 := n2_
     have BK415 := n3_
     have HB := n4_
     clear n0_ n1_ n2_ n3_ n4_
     refine start_ (n := 8) (S := fun w' => w'.cell? ⟨gb414, 0, none⟩ = some (.int .i64 a0_0) ∧ w'.cell? ⟨gb414, 1, none⟩ = some (.int .i64 a0_1) ∧ w'.cell? ⟨gb414, 2, none⟩ = some (.slice A0_2 l0_2.length c0_2) ∧ w'.cell? ⟨gb415, 0, none⟩ = some (.int .i64 a1_0) ∧ w'.cell? ⟨gb415, 1, none⟩ = some (.int .i64 a1_1) ∧ w'.cell? ⟨gb415, 2, none⟩ = some (.slice A1_2 l1_2.length c1_2)) (ds := []) #[false, false, false, false, false, false, false, false] (by kernel_rfl) rfl rfl ⟨(blk_cell BK414.out 0).trans rfl, (blk_cell BK414.out 1).trans rfl, (blk_cell BK414.out 2).trans rfl, (blk_cell BK415.out 0).trans rfl, (blk_cell BK415.out 1).trans rfl, (blk_cell BK415.out 2).trans rfl⟩ (fun hHeld => ?_); refine with_tabW semigrouplaw04_ExprBoolean.tab3 semigrouplaw04_ExprBoolean.bits3 (fun HT_ HW_ => ?_)
     generalize wc.drew = w48 at HO_415002 HO_416002 BK414 BK415 HB hHeld ⊢
     refine pure_ (i := 1) (N := some 42) (v := ?_) (a' := ?_) #[false, true, false, false, false, false, false, false] rfl rfl (any_of HT_.out (by kernel_rfl)) (fun _ _ _ h => h) (Or.inl ⟨by rfl, ?_⟩) ?_ ?_
     rotate_left
     ·intro w'
      go_simp
      with_reducible rfl
     rotate_left
     ·simp only [Act.put, List.setIfInBounds_toArray, List.set_cons_zero, List.set_cons_succ, i64_w, i32_w]
      rfl
     refine pure_ (i := 4) (N := some 45) (v := ?_) (a' := ?_) #[false, true, false, false, true, false, false, false] rfl rfl (any_of HT_.out (by kernel_rfl)) (fun _ _ _ h => h) (Or.inl ⟨by rfl, ?_⟩) ?_ ?_
     rotate_left
     ·intro w'
      go_simp
      with_reducible rfl
     rotate_left
     ·simp only [Act.put, List.setIfInBounds_toArray, List.set_cons_zero, List.set_cons_succ, i64_w, i32_w]
      rfl
     refine take_ (i := 0) (N := some 41) (v := ?_) (a' := ?_) #[true, true, false, false, true, false, false, false] rfl rfl (take_ofW HT_.out HW_.out (by kernel_rfl)) (fun _ _ _ h => h) (Or.inl ⟨by rfl, ?_⟩) hHeld ?_ ?_
     rotate_left
     ·rintro w' ⟨s0, s1, s2, s3, s4, s5⟩
      go_simp
      with_reducible rfl
     rotate_left
     ·simp only [Act.put, List.setIfInBounds_toArray, List.set_cons_zero, List.set_cons_succ, i64_w, i32_w]
      rfl
     refine take_ (i := 3) (N := some 44) (v := ?_) (a' := ?_) #[true, true, false, true, true, false, false, false] rfl rfl (take_ofW HT_.out HW_.out (by kernel_rfl)) (fun _ _ _ h => h) (Or.inl ⟨by rfl, ?_⟩) hHeld ?_ ?_
     rotate_left
     ·rintro w' ⟨s0, s1, s2, s3, s4, s5⟩
      go_simp
      with_reducible rfl
     rotate_left
     ·simp only [Act.put, List.setIfInBounds_toArray, List.set_cons_zero, List.set_cons_succ, i64_w, i32_w]
      rfl
     refine one_ (i := 2) (N := some 43) #[true, true, true, true, true, false, false, false] rfl rfl (one_of HT_.out (by kernel_rfl)) (by decide) (fun K hK => ?_)
     refine goes_ Try.func35 (by kernel_rfl) rfl #[.agg #[.int .i64 a0_0, .int .i64 a0_1, .slice A0_2 l0_2.length c0_2], .string a2] (by rfl) rfl rfl (by (try simp only [List.map_toArray, List.map_cons, List.map_nil]); first | done | rfl | (simp only [List.length_drop, List.length_take]; rfl)) ?_
     with_reducible refine (expr_Match.calls kj3 a0_0 a0_1 _ _ l0_2 a2 true _ ?side1 ?side2 A41.out).mono ?_
     (case side1 => repeat (first | exact (Kd.V_reads' HO_415002.out).2.2 | (with_reducible refine Kd.C_alloc ?_ _) | (with_reducible refine Kd.C_drewN ?_ _) | (with_reducible refine Kd.C_drew ?_)))
     (case side2 => exact (Kd.V_reads' HO_415002.out).2.1)
     rintro e w49 ⟨rfl, hb⟩
     refine ⟨_, rfl, ?_⟩
     have n0_ := Aside0.mk (Kd.V_below (by (with_reducible repeat (first | apply Kd.V_alloc | apply Kd.V_drewN | apply Kd.V_drew)); exact HO_415002.out) hb)
     have n1_ := Aside0.mk (Kd.V_below (by (with_reducible repeat (first | apply Kd.V_alloc | apply Kd.V_drewN | apply Kd.V_drew)); exact HO_416002.out) hb)
     have n2_ := Aside0.mk (blk_below (g := gb414) (o := .cells #[.int .i64 a0_0, .int .i64 a0_1, .slice A0_2 l0_2.length c0_2] 24 (0, 0)) (bK) hb)
     have n3_ := Aside0.mk (blk_below (g := gb415) (o := .cells #[.int .i64 a1_0, .int .i64 a1_1, .slice A1_2 l1_2.length c1_2] 24 (0, 0)) (bK) hb)
     have n4_ := Aside0.mk (below_step (bB) hb)
     clear HO_415002
     clear HO_416002
     clear BK414
     clear BK415
     clear HB
     have HO_415002 := n0_
     have HO_416002 := n1_
     have BK414 := n2_
     have BK415 := n3_
     have HB := n4_
     clear n0_ n1_ n2_ n3_ n4_
     (try clear hb)
     (try clear hb2)
     (try clear hk)
     (try clear hi)
     refine hK.out _ _ ⟨(blk_cell BK414.out 0).trans rfl, (blk_cell BK414.out 1).trans rfl, (blk_cell BK414.out 2).trans rfl, (blk_cell BK415.out 0).trans rfl, (blk_cell BK415.out 1).trans rfl, (blk_cell BK415.out 2).trans rfl⟩ (fun hHeld => ?_)
     clear hK K
     refine norm_ (a' := ?_) ?_ ?_
     rotate_left
     ·show Act.put _ (some 43) _ = _
      simp only [Act.put, List.setIfInBounds_toArray, List.set_cons_zero, List.set_cons_succ, i64_w, i32_w]
      rfl
     refine one_ (i := 5) (N := some 46) #[true, true, true, true, true, true, false, false] rfl rfl (one_of HT_.out (by kernel_rfl)) (by decide) (fun K hK => ?_)
     refine goes_ Try.func35 (by kernel_rfl) rfl #[.agg #[.int .i64 a1_0, .int .i64 a1_1, .slice A1_2 l1_2.length c1_2], .string a2] (by rfl) rfl rfl (by (try simp only [List.map_toArray, List.map_cons, List.map_nil]); first | done | rfl | (simp only [List.length_drop, List.length_take]; rfl)) ?_
     with_reducible refine (expr_Match.calls kj3 a1_0 a1_1 _ _ l1_2 a2 t423 _ ?side1 ?side2 A42.out).mono ?_
     (case side1 => repeat (first | exact (Kd.V_reads' HO_416002.out).2.2 | (with_reducible refine Kd.C_alloc ?_ _) | (with_reducible refine Kd.C_drewN ?_ _) | (with_reducible refine Kd.C_drew ?_)))
     (case side2 => exact (Kd.V_reads' HO_416002.out).2.1)
     rintro e w50 ⟨rfl, hb⟩
     refine ⟨_, rfl, ?_⟩
     have n0_ := Aside0.mk (Kd.V_below (by (with_reducible repeat (first | apply Kd.V_alloc | apply Kd.V_drewN | apply Kd.V_drew)); exact HO_415002.out) hb)
     have n1_ := Aside0.mk (Kd.V_below (by (with_reducible repeat (first | apply Kd.V_alloc | apply Kd.V_drewN | apply Kd.V_drew)); exact HO_416002.out) hb)
     have n2_ := Aside0.mk (blk_below (g := gb414) (o := .cells #[.int .i64 a0_0, .int .i64 a0_1, .slice A0_2 l0_2.length c0_2] 24 (0, 0)) (bK) hb)
     have n3_ := Aside0.mk (blk_below (g := gb415) (o := .cells #[.int .i64 a1_0, .int .i64 a1_1, .slice A1_2 l1_2.length c1_2] 24 (0, 0)) (bK) hb)
     have n4_ := Aside0.mk (below_step (bB) hb)
     clear HO_415002
     clear HO_416002
     clear BK414
     clear BK415
     clear HB
     have HO_415002 := n0_
     have HO_416002 := n1_
     have BK414 := n2_
     have BK415 := n3_
     have HB := n4_
     clear n0_ n1_ n2_ n3_ n4_
     (try clear hb)
     (try clear hb2)
     (try clear hk)
     (try clear hi)
     refine hK.out _ _ ⟨(blk_cell BK414.out 0).trans rfl, (blk_cell BK414.out 1).trans rfl, (blk_cell BK414.out 2).trans rfl, (blk_cell BK415.out 0).trans rfl, (blk_cell BK415.out 1).trans rfl, (blk_cell BK415.out 2).trans rfl⟩ (fun hHeld => ?_)
     clear hK K
     refine norm_ (a' := ?_) ?_ ?_
     rotate_left
     ·show Act.put _ (some 46) _ = _
      simp only [Act.put, List.setIfInBounds_toArray, List.set_cons_zero, List.set_cons_succ, i64_w, i32_w]
      rfl
     refine pure_ (i := 6) (N := some 7) (v := ?_) (a' := ?_) #[true, true, true, true, true, true, true, false] rfl rfl (any_of HT_.out (by kernel_rfl)) (fun _ _ _ h => h) (Or.inl ⟨by rfl, ?_⟩) ?_ ?_
     rotate_left
     ·intro w'
      go_simp
      with_reducible rfl
     rotate_left
     ·simp only [Act.put, List.setIfInBounds_toArray, List.set_cons_zero, List.set_cons_succ, i64_w, i32_w]
      rfl
     refine pure_ (i := 7) (N := some 8) (v := ?_) (a' := ?_) #[true, true, true, true, true, true, true, true] rfl rfl (any_of HT_.out (by kernel_rfl)) (fun _ _ _ h => h) (Or.inl ⟨by rfl, ?_⟩) ?_ ?_
     rotate_left
     ·intro w'
      go_simp
      with_reducible rfl
     rotate_left
     ·simp only [Act.put, List.setIfInBounds_toArray, List.set_cons_zero, List.set_cons_succ, i64_w, i32_w]
      rfl
     refine done_ (done_of HT_.out (by kernel_rfl)) ?_
     have hnb51 := NB414_415.out
     have hnc51 := NB415_414.out
     have hcz52_0 : w50.cell? ⟨gb414, 0, none⟩ = some (.int .i64 a0_0) := (blk_cell BK414.out 0).trans rfl
     have hcz52_1 : w50.cell? ⟨gb414, 1, none⟩ = some (.int .i64 a0_1) := (blk_cell BK414.out 1).trans rfl
     have hcz52_2 : w50.cell? ⟨gb414, 2, none⟩ = some (.slice A0_2 l0_2.length c0_2) := (blk_cell BK414.out 2).trans rfl
     have hfz52_0 := blk_frozen BK414.out 0
     have hfz52_1 := blk_frozen BK414.out 1
     have hfz52_2 := blk_frozen BK414.out 2
     have hcz53_0 : w50.cell? ⟨gb415, 0, none⟩ = some (.int .i64 a1_0) := (blk_cell BK415.out 0).trans rfl
     have hcz53_1 : w50.cell? ⟨gb415, 1, none⟩ = some (.int .i64 a1_1) := (blk_cell BK415.out 1).trans rfl
     have hcz53_2 : w50.cell? ⟨gb415, 2, none⟩ = some (.slice A1_2 l1_2.length c1_2) := (blk_cell BK415.out 2).trans rfl
     have hfz53_0 := blk_frozen BK415.out 0
     have hfz53_1 := blk_frozen BK415.out 1
     have hfz53_2 := blk_frozen BK415.out 2
     go_wp2_with (first | ((with_reducible refine gate_dst (N := 49) rfl ?_); (try (refine gate_guard (by rfl) ?_; dsimp only)); refine Kd.N_lit k24 _ 24 ?hg (N' := 49) ?hd (xs := ([(⟨a0_0, a0_1, l0_2⟩ : S24), (⟨a1_0, a1_1, l1_2⟩ : S24)] : List (S24))) (inner := [.int .i64 a0_0, .int .i64 a0_1, .slice A0_2 l0_2.length c0_2, .int .i64 a1_0, .int .i64 a1_1, .slice A1_2 l1_2.length c1_2]) (ok := (fun k_ => ((P0_2_ k_ ∨ P1_2_ k_) ∨ w.heap.size ≤ k_) ∧ k_ ≠ gb414 ∧ k_ ≠ gb415)) (okp := (fun k_ => ((P0_2_ k_ ∨ P1_2_ k_) ∨ w.heap.size ≤ k_) ∧ k_ ≠ gb414 ∧ k_ ≠ gb415)) ?hr ?hp (fun _ hk => hk) ((show ∀ k_, w50.heap.size ≤ k_ → (fun k_ => ((P0_2_ k_ ∨ P1_2_ k_) ∨ w.heap.size ≤ k_) ∧ k_ ≠ gb414 ∧ k_ ≠ gb415) k_ from fun k_ hk => ⟨(.inr (Nat.le_trans (below_size (bB)) hk)), Kd.freshB (g := gb414) (o := .cells #[.int .i64 a0_0, .int .i64 a0_1, .slice A0_2 l0_2.length c0_2] 24 (0, 0)) (bK) k_ hk, Kd.freshB (g := gb415) (o := .cells #[.int .i64 a1_0, .int .i64 a1_1, .slice A1_2 l1_2.length c1_2] 24 (0, 0)) (bK) k_ hk⟩) _ (Nat.le_refl _)) (Below.refl _ _) (Nat.le_refl _) (by simp) ?_; (case hd => rfl); (case hg => rfl); (case hr => first | (go_simp; done) | (go_simp; rfl)); (case hp => exact (Reps.c3 (show Kd.FK k24 _ _ (⟨a0_0, a0_1, l0_2⟩ : S24) [.int .i64 a0_0, .int .i64 a0_1, .slice A0_2 l0_2.length c0_2] from (k24_mkF _ _ (⟨a0_0, a0_1, l0_2⟩ : S24) (Kd.V_reads' (Kd.V_mono (ok' := (fun k_ => ((P0_2_ k_ ∨ P1_2_ k_) ∨ w.heap.size ≤ k_) ∧ k_ ≠ gb414 ∧ k_ ≠ gb415)) (HO_415002.out) (fun k_ hk => ⟨hk.1, ⟨hk.2.1, hk.2.2⟩⟩))).2.1 (Kd.V_F (Kd.V_mono (ok' := (fun k_ => ((P0_2_ k_ ∨ P1_2_ k_) ∨ w.heap.size ≤ k_) ∧ k_ ≠ gb414 ∧ k_ ≠ gb415)) (HO_415002.out) (fun k_ hk => ⟨hk.1, ⟨hk.2.1, hk.2.2⟩⟩))))) (Reps.c3 (show Kd.FK k24 _ _ (⟨a1_0, a1_1, l1_2⟩ : S24) [.int .i64 a1_0, .int .i64 a1_1, .slice A1_2 l1_2.length c1_2] from (k24_mkF _ _ (⟨a1_0, a1_1, l1_2⟩ : S24) (Kd.V_reads' (Kd.V_mono (ok' := (fun k_ => ((P0_2_ k_ ∨ P1_2_ k_) ∨ w.heap.size ≤ k_) ∧ k_ ≠ gb414 ∧ k_ ≠ gb415)) (HO_416002.out) (fun k_ hk => ⟨hk.1, ⟨hk.2.1, hk.2.2⟩⟩))).2.1 (Kd.V_F (Kd.V_mono (ok' := (fun k_ => ((P0_2_ k_ ∨ P1_2_ k_) ∨ w.heap.size ≤ k_) ∧ k_ ≠ gb414 ∧ k_ ≠ gb415)) (HO_416002.out) (fun k_ hk => ⟨hk.1, ⟨hk.2.1, hk.2.2⟩⟩))))) (Reps.none _ _)))); intro v425 w54 ho55 hb hg_ hnew_; clear hg_ hnew_; (first | rw [← Ny424.out] at ho55 | (simp only [Int.reduceToNat] at ho55; rw [← Ny424.out] at ho55)); have n0_ := Aside0.mk (Kd.V_elder' (by (with_reducible repeat (first | apply Kd.V_alloc | apply Kd.V_drewN | apply Kd.V_drew)); exact HO_415002.out) (Kd.N_base ho55) hb); have n1_ := Aside0.mk (Kd.V_elder' (by (with_reducible repeat (first | apply Kd.V_alloc | apply Kd.V_drewN | apply Kd.V_drew)); exact HO_416002.out) (Kd.N_base ho55) hb); have n2_ := Aside0.mk (Kd.N_lower ho55 (below_size (bB))); have n3_ := Aside0.mk (blk_below (g := gb414) (o := .cells #[.int .i64 a0_0, .int .i64 a0_1, .slice A0_2 l0_2.length c0_2] 24 (0, 0)) (bK) hb); have n4_ := Aside0.mk (blk_below (g := gb415) (o := .cells #[.int .i64 a1_0, .int .i64 a1_1, .slice A1_2 l1_2.length c1_2] 24 (0, 0)) (bK) hb); have n5_ := Aside0.mk (below_step (bB) hb); clear HO_415002; clear HO_416002; clear BK414; clear BK415; clear HB; have HO_415002 := n0_; have HO_416002 := n1_; have HO426 := n2_; have BK414 := n3_; have BK415 := n4_; have HB := n5_; clear n0_ n1_ n2_ n3_ n4_ n5_; clear hb ho55; obtain ⟨Ao56, co56, eo56⟩ := Kd.N_slice HO426.out; subst eo56) | ((with_reducible refine gate_callee (f := 35) rfl ?_); refine goesL_ (some 52) rfl rfl Try.func35 (by kernel_rfl) rfl #[.agg #[.int .i64 4, .int .i64 0, .slice Ao56 y424.length co56], .string a2] rfl (by (try simp only [List.map_toArray, List.map_cons, List.map_nil]); first | done | rfl | (simp only [List.length_drop, List.length_take]; rfl) | (simp only [Int.ofNat_lt, Int.ofNat_le]; rfl)) ?_; (with_reducible refine (expr_Match.calls kj3 4 0 _ _ y424 a2 t427 _ ?side1 ?side2 A43.out).mono ?_); (case side1 => repeat (first | exact (Kd.N_reads' HO426.out).2.2 | (with_reducible refine Kd.C_alloc ?_ _) | (with_reducible refine Kd.C_drewN ?_ _) | (with_reducible refine Kd.C_drew ?_))); (case side2 => exact (Kd.N_reads' HO426.out).2.1); rintro e w57 ⟨rfl, hb⟩; refine ⟨_, rfl, ?_⟩; have n0_ := Aside0.mk (Kd.V_below (by (with_reducible repeat (first | apply Kd.V_alloc | apply Kd.V_drewN | apply Kd.V_drew)); exact HO_415002.out) hb); have n1_ := Aside0.mk (Kd.V_below (by (with_reducible repeat (first | apply Kd.V_alloc | apply Kd.V_drewN | apply Kd.V_drew)); exact HO_416002.out) hb); have n2_ := Aside0.mk (Kd.N_below (by (with_reducible repeat (first | apply Kd.N_alloc | apply Kd.N_drewN | apply Kd.N_drew)); exact HO426.out) hb); have n3_ := Aside0.mk (blk_below (g := gb414) (o := .cells #[.int .i64 a0_0, .int .i64 a0_1, .slice A0_2 l0_2.length c0_2] 24 (0, 0)) (bK) hb); have n4_ := Aside0.mk (blk_below (g := gb415) (o := .cells #[.int .i64 a1_0, .int .i64 a1_1, .slice A1_2 l1_2.length c1_2] 24 (0, 0)) (bK) hb); have n5_ := Aside0.mk (below_step (bB) hb); clear HO_415002; clear HO_416002; clear HO426; clear BK414; clear BK415; clear HB; have HO_415002 := n0_; have HO_416002 := n1_; have HO426 := n2_; have BK414 := n3_; have BK415 := n4_; have HB := n5_; clear n0_ n1_ n2_ n3_ n4_ n5_; (try clear hb); (try clear hb2); (try clear hk); (try clear hi); have hcz58_0 : w57.cell? ⟨gb414, 0, none⟩ = some (.int .i64 a0_0) := (blk_cell BK414.out 0).trans rfl; have hcz58_1 : w57.cell? ⟨gb414, 1, none⟩ = some (.int .i64 a0_1) := (blk_cell BK414.out 1).trans rfl; have hcz58_2 : w57.cell? ⟨gb414, 2, none⟩ = some (.slice A0_2 l0_2.length c0_2) := (blk_cell BK414.out 2).trans rfl; have hfz58_0 := blk_frozen BK414.out 0; have hfz58_1 := blk_frozen BK414.out 1; have hfz58_2 := blk_frozen BK414.out 2; have hcz59_0 : w57.cell? ⟨gb415, 0, none⟩ = some (.int .i64 a1_0) := (blk_cell BK415.out 0).trans rfl; have hcz59_1 : w57.cell? ⟨gb415, 1, none⟩ = some (.int .i64 a1_1) := (blk_cell BK415.out 1).trans rfl; have hcz59_2 : w57.cell? ⟨gb415, 2, none⟩ = some (.slice A1_2 l1_2.length c1_2) := (blk_cell BK415.out 2).trans rfl; have hfz59_0 := blk_frozen BK415.out 0; have hfz59_1 := blk_frozen BK415.out 1; have hfz59_2 := blk_frozen BK415.out 2) | ((with_reducible refine gate_dst (N := 55) rfl ?_); (try (refine gate_guard (by rfl) ?_; dsimp only)); refine Kd.N_lit k24 _ 24 ?hg (N' := 55) ?hd (xs := ([(⟨a0_0, a0_1, l0_2⟩ : S24), (⟨a1_0, a1_1, l1_2⟩ : S24)] : List (S24))) (inner := [.int .i64 a0_0, .int .i64 a0_1, .slice A0_2 l0_2.length c0_2, .int .i64 a1_0, .int .i64 a1_1, .slice A1_2 l1_2.length c1_2]) (ok := (fun k_ => ((P0_2_ k_ ∨ P1_2_ k_) ∨ w.heap.size ≤ k_) ∧ some k_ ≠ (.slice Ao56 y424.length co56 : Value).ownBlock ∧ k_ ≠ gb414 ∧ k_ ≠ gb415)) (okp := (fun k_ => ((P0_2_ k_ ∨ P1_2_ k_) ∨ w.heap.size ≤ k_) ∧ some k_ ≠ (.slice Ao56 y424.length co56 : Value).ownBlock ∧ k_ ≠ gb414 ∧ k_ ≠ gb415)) ?hr ?hp (fun _ hk => hk) ((show ∀ k_, w57.heap.size ≤ k_ → (fun k_ => ((P0_2_ k_ ∨ P1_2_ k_) ∨ w.heap.size ≤ k_) ∧ some k_ ≠ (.slice Ao56 y424.length co56 : Value).ownBlock ∧ k_ ≠ gb414 ∧ k_ ≠ gb415) k_ from fun k_ hk => ⟨(.inr (Nat.le_trans (below_size (bB)) hk)), Kd.fresh' (Kd.N_lt (by (with_reducible repeat (first | apply Kd.N_alloc | apply Kd.N_drewN | apply Kd.N_drew)); exact HO426.out)) k_ hk, Kd.freshB (g := gb414) (o := .cells #[.int .i64 a0_0, .int .i64 a0_1, .slice A0_2 l0_2.length c0_2] 24 (0, 0)) (bK) k_ hk, Kd.freshB (g := gb415) (o := .cells #[.int .i64 a1_0, .int .i64 a1_1, .slice A1_2 l1_2.length c1_2] 24 (0, 0)) (bK) k_ hk⟩) _ (Nat.le_refl _)) (Below.refl _ _) (Nat.le_refl _) (by simp) ?_; (case hd => rfl); (case hg => rfl); (case hr => first | (go_simp; done) | (go_simp; rfl)); (case hp => exact (Reps.c3 (show Kd.FK k24 _ _ (⟨a0_0, a0_1, l0_2⟩ : S24) [.int .i64 a0_0, .int .i64 a0_1, .slice A0_2 l0_2.length c0_2] from (k24_mkF _ _ (⟨a0_0, a0_1, l0_2⟩ : S24) (Kd.V_reads' (Kd.V_mono (ok' := (fun k_ => ((P0_2_ k_ ∨ P1_2_ k_) ∨ w.heap.size ≤ k_) ∧ some k_ ≠ (.slice Ao56 y424.length co56 : Value).ownBlock ∧ k_ ≠ gb414 ∧ k_ ≠ gb415)) (HO_415002.out) (fun k_ hk => ⟨hk.1.1, ⟨hk.2, ⟨hk.1.2.1, hk.1.2.2⟩⟩⟩))).2.1 (Kd.V_F (Kd.V_mono (ok' := (fun k_ => ((P0_2_ k_ ∨ P1_2_ k_) ∨ w.heap.size ≤ k_) ∧ some k_ ≠ (.slice Ao56 y424.length co56 : Value).ownBlock ∧ k_ ≠ gb414 ∧ k_ ≠ gb415)) (HO_415002.out) (fun k_ hk => ⟨hk.1.1, ⟨hk.2, ⟨hk.1.2.1, hk.1.2.2⟩⟩⟩))))) (Reps.c3 (show Kd.FK k24 _ _ (⟨a1_0, a1_1, l1_2⟩ : S24) [.int .i64 a1_0, .int .i64 a1_1, .slice A1_2 l1_2.length c1_2] from (k24_mkF _ _ (⟨a1_0, a1_1, l1_2⟩ : S24) (Kd.V_reads' (Kd.V_mono (ok' := (fun k_ => ((P0_2_ k_ ∨ P1_2_ k_) ∨ w.heap.size ≤ k_) ∧ some k_ ≠ (.slice Ao56 y424.length co56 : Value).ownBlock ∧ k_ ≠ gb414 ∧ k_ ≠ gb415)) (HO_416002.out) (fun k_ hk => ⟨hk.1.1, ⟨hk.2, ⟨hk.1.2.1, hk.1.2.2⟩⟩⟩))).2.1 (Kd.V_F (Kd.V_mono (ok' := (fun k_ => ((P0_2_ k_ ∨ P1_2_ k_) ∨ w.heap.size ≤ k_) ∧ some k_ ≠ (.slice Ao56 y424.length co56 : Value).ownBlock ∧ k_ ≠ gb414 ∧ k_ ≠ gb415)) (HO_416002.out) (fun k_ hk => ⟨hk.1.1, ⟨hk.2, ⟨hk.1.2.1, hk.1.2.2⟩⟩⟩))))) (Reps.none _ _)))); intro v429 w60 ho61 hb hg_ hnew_; clear hg_ hnew_; (first | rw [← Ny428.out] at ho61 | (simp only [Int.reduceToNat] at ho61; rw [← Ny428.out] at ho61)); have n0_ := Aside0.mk (Kd.V_elder' (by (with_reducible repeat (first | apply Kd.V_alloc | apply Kd.V_drewN | apply Kd.V_drew)); exact HO_415002.out) (Kd.N_base ho61) hb); have n1_ := Aside0.mk (Kd.V_elder' (by (with_reducible repeat (first | apply Kd.V_alloc | apply Kd.V_drewN | apply Kd.V_drew)); exact HO_416002.out) (Kd.N_base ho61) hb); have n2_ := Aside0.mk (Kd.N_elder' (by (with_reducible repeat (first | apply Kd.N_alloc | apply Kd.N_drewN | apply Kd.N_drew)); exact HO426.out) (Kd.N_base ho61) hb); have n3_ := Aside0.mk (Kd.N_lower ho61 (below_size (bB))); have n4_ := Aside0.mk (blk_below (g := gb414) (o := .cells #[.int .i64 a0_0, .int .i64 a0_1, .slice A0_2 l0_2.length c0_2] 24 (0, 0)) (bK) hb); have n5_ := Aside0.mk (blk_below (g := gb415) (o := .cells #[.int .i64 a1_0, .int .i64 a1_1, .slice A1_2 l1_2.length c1_2] 24 (0, 0)) (bK) hb); have n6_ := Aside0.mk (below_step (bB) hb); clear HO_415002; clear HO_416002; clear HO426; clear BK414; clear BK415; clear HB; have HO_415002 := n0_; have HO_416002 := n1_; have HO426 := n2_; have HO430 := n3_; have BK414 := n4_; have BK415 := n5_; have HB := n6_; clear n0_ n1_ n2_ n3_ n4_ n5_ n6_; clear hb ho61; obtain ⟨Ao62, co62, eo62⟩ := Kd.N_slice HO430.out; subst eo62) | ((with_reducible refine gate_callee (f := 35) rfl ?_); refine goesL_ (some 58) rfl rfl Try.func35 (by kernel_rfl) rfl #[.agg #[.int .i64 6, .int .i64 0, .slice Ao62 y428.length co62], .string a2] rfl (by (try simp only [List.map_toArray, List.map_cons, List.map_nil]); first | done | rfl | (simp only [List.length_drop, List.length_take]; rfl) | (simp only [Int.ofNat_lt, Int.ofNat_le]; rfl)) ?_; (with_reducible refine (expr_Match.calls kj3 6 0 _ _ y428 a2 t431 _ ?side1 ?side2 A44.out).mono ?_); (case side1 => repeat (first | exact (Kd.N_reads' HO430.out).2.2 | (with_reducible refine Kd.C_alloc ?_ _) | (with_reducible refine Kd.C_drewN ?_ _) | (with_reducible refine Kd.C_drew ?_))); (case side2 => exact (Kd.N_reads' HO430.out).2.1); rintro e w63 ⟨rfl, hb⟩; refine ⟨_, rfl, ?_⟩; have n0_ := Aside0.mk (Kd.V_below (by (with_reducible repeat (first | apply Kd.V_alloc | apply Kd.V_drewN | apply Kd.V_drew)); exact HO_415002.out) hb); have n1_ := Aside0.mk (Kd.V_below (by (with_reducible repeat (first | apply Kd.V_alloc | apply Kd.V_drewN | apply Kd.V_drew)); exact HO_416002.out) hb); have n2_ := Aside0.mk (Kd.N_below (by (with_reducible repeat (first | apply Kd.N_alloc | apply Kd.N_drewN | apply Kd.N_drew)); exact HO426.out) hb); have n3_ := Aside0.mk (Kd.N_below (by (with_reducible repeat (first | apply Kd.N_alloc | apply Kd.N_drewN | apply Kd.N_drew)); exact HO430.out) hb); have n4_ := Aside0.mk (blk_below (g := gb414) (o := .cells #[.int .i64 a0_0, .int .i64 a0_1, .slice A0_2 l0_2.length c0_2] 24 (0, 0)) (bK) hb); have n5_ := Aside0.mk (blk_below (g := gb415) (o := .cells #[.int .i64 a1_0, .int .i64 a1_1, .slice A1_2 l1_2.length c1_2] 24 (0, 0)) (bK) hb); have n6_ := Aside0.mk (below_step (bB) hb); clear HO_415002; clear HO_416002; clear HO426; clear HO430; clear BK414; clear BK415; clear HB; have HO_415002 := n0_; have HO_416002 := n1_; have HO426 := n2_; have HO430 := n3_; have BK414 := n4_; have BK415 := n5_; have HB := n6_; clear n0_ n1_ n2_ n3_ n4_ n5_ n6_; (try clear hb); (try clear hb2); (try clear hk); (try clear hi); have hcz64_0 : w63.cell? ⟨gb414, 0, none⟩ = some (.int .i64 a0_0) := (blk_cell BK414.out 0).trans rfl; have hcz64_1 : w63.cell? ⟨gb414, 1, none⟩ = some (.int .i64 a0_1) := (blk_cell BK414.out 1).trans rfl; have hcz64_2 : w63.cell? ⟨gb414, 2, none⟩ = some (.slice A0_2 l0_2.length c0_2) := (blk_cell BK414.out 2).trans rfl; have hfz64_0 := blk_frozen BK414.out 0; have hfz64_1 := blk_frozen BK414.out 1; have hfz64_2 := blk_frozen BK414.out 2) | ((with_reducible refine gate_dst (N := 60) rfl ?_); (try (refine gate_guard (by rfl) ?_; dsimp only)); refine Kd.N_lit k24 _ 24 ?hg (N' := 60) ?hd (xs := ([(⟨a0_0, a0_1, l0_2⟩ : S24)] : List (S24))) (inner := [.int .i64 a0_0, .int .i64 a0_1, .slice A0_2 l0_2.length c0_2]) (ok := (fun k_ => ((P0_2_ k_ ∨ P1_2_ k_) ∨ w.heap.size ≤ k_) ∧ some k_ ≠ (.slice Ao56 y424.length co56 : Value).ownBlock ∧ some k_ ≠ (.slice Ao62 y428.length co62 : Value).ownBlock ∧ k_ ≠ gb414 ∧ k_ ≠ gb415)) (okp := (fun k_ => ((P0_2_ k_ ∨ P1_2_ k_) ∨ w.heap.size ≤ k_) ∧ some k_ ≠ (.slice Ao56 y424.length co56 : Value).ownBlock ∧ some k_ ≠ (.slice Ao62 y428.length co62 : Value).ownBlock ∧ k_ ≠ gb414 ∧ k_ ≠ gb415)) ?hr ?hp (fun _ hk => hk) ((show ∀ k_, w63.heap.size ≤ k_ → (fun k_ => ((P0_2_ k_ ∨ P1_2_ k_) ∨ w.heap.size ≤ k_) ∧ some k_ ≠ (.slice Ao56 y424.length co56 : Value).ownBlock ∧ some k_ ≠ (.slice Ao62 y428.length co62 : Value).ownBlock ∧ k_ ≠ gb414 ∧ k_ ≠ gb415) k_ from fun k_ hk => ⟨(.inr (Nat.le_trans (below_size (bB)) hk)), Kd.fresh' (Kd.N_lt (by (with_reducible repeat (first | apply Kd.N_alloc | apply Kd.N_drewN | apply Kd.N_drew)); exact HO426.out)) k_ hk, Kd.fresh' (Kd.N_lt (by (with_reducible repeat (first | apply Kd.N_alloc | apply Kd.N_drewN | apply Kd.N_drew)); exact HO430.out)) k_ hk, Kd.freshB (g := gb414) (o := .cells #[.int .i64 a0_0, .int .i64 a0_1, .slice A0_2 l0_2.length c0_2] 24 (0, 0)) (bK) k_ hk, Kd.freshB (g := gb415) (o := .cells #[.int .i64 a1_0, .int .i64 a1_1, .slice A1_2 l1_2.length c1_2] 24 (0, 0)) (bK) k_ hk⟩) _ (Nat.le_refl _)) (Below.refl _ _) (Nat.le_refl _) (by simp) ?_; (case hd => rfl); (case hg => rfl); (case hr => first | (go_simp; done) | (go_simp; rfl)); (case hp => exact (Reps.c3 (show Kd.FK k24 _ _ (⟨a0_0, a0_1, l0_2⟩ : S24) [.int .i64 a0_0, .int .i64 a0_1, .slice A0_2 l0_2.length c0_2] from (k24_mkF _ _ (⟨a0_0, a0_1, l0_2⟩ : S24) (Kd.V_reads' (Kd.V_mono (ok' := (fun k_ => ((P0_2_ k_ ∨ P1_2_ k_) ∨ w.heap.size ≤ k_) ∧ some k_ ≠ (.slice Ao56 y424.length co56 : Value).ownBlock ∧ some k_ ≠ (.slice Ao62 y428.length co62 : Value).ownBlock ∧ k_ ≠ gb414 ∧ k_ ≠ gb415)) (HO_415002.out) (fun k_ hk => ⟨hk.1.1.1, ⟨hk.1.2, ⟨hk.2, ⟨hk.1.1.2.1, hk.1.1.2.2⟩⟩⟩⟩))).2.1 (Kd.V_F (Kd.V_mono (ok' := (fun k_ => ((P0_2_ k_ ∨ P1_2_ k_) ∨ w.heap.size ≤ k_) ∧ some k_ ≠ (.slice Ao56 y424.length co56 : Value).ownBlock ∧ some k_ ≠ (.slice Ao62 y428.length co62 : Value).ownBlock ∧ k_ ≠ gb414 ∧ k_ ≠ gb415)) (HO_415002.out) (fun k_ hk => ⟨hk.1.1.1, ⟨hk.1.2, ⟨hk.2, ⟨hk.1.1.2.1, hk.1.1.2.2⟩⟩⟩⟩))))) (Reps.none _ _))); intro v433 w65 ho66 hb hg_ hnew_; clear hg_ hnew_; (first | rw [← Ny432.out] at ho66 | (simp only [Int.reduceToNat] at ho66; rw [← Ny432.out] at ho66)); have n0_ := Aside0.mk (Kd.V_elder' (by (with_reducible repeat (first | apply Kd.V_alloc | apply Kd.V_drewN | apply Kd.V_drew)); exact HO_415002.out) (Kd.N_base ho66) hb); have n1_ := Aside0.mk (Kd.V_elder' (by (with_reducible repeat (first | apply Kd.V_alloc | apply Kd.V_drewN | apply Kd.V_drew)); exact HO_416002.out) (Kd.N_base ho66) hb); have n2_ := Aside0.mk (Kd.N_elder' (by (with_reducible repeat (first | apply Kd.N_alloc | apply Kd.N_drewN | apply Kd.N_drew)); exact HO426.out) (Kd.N_base ho66) hb); have n3_ := Aside0.mk (Kd.N_elder' (by (with_reducible repeat (first | apply Kd.N_alloc | apply Kd.N_drewN | apply Kd.N_drew)); exact HO430.out) (Kd.N_base ho66) hb); have n4_ := Aside0.mk (Kd.N_lower ho66 (below_size (bB))); have n5_ := Aside0.mk (blk_below (g := gb414) (o := .cells #[.int .i64 a0_0, .int .i64 a0_1, .slice A0_2 l0_2.length c0_2] 24 (0, 0)) (bK) hb); have n6_ := Aside0.mk (blk_below (g := gb415) (o := .cells #[.int .i64 a1_0, .int .i64 a1_1, .slice A1_2 l1_2.length c1_2] 24 (0, 0)) (bK) hb); have n7_ := Aside0.mk (below_step (bB) hb); clear HO_415002; clear HO_416002; clear HO426; clear HO430; clear BK414; clear BK415; clear HB; have HO_415002 := n0_; have HO_416002 := n1_; have HO426 := n2_; have HO430 := n3_; have HO434 := n4_; have BK414 := n5_; have BK415 := n6_; have HB := n7_; clear n0_ n1_ n2_ n3_ n4_ n5_ n6_ n7_; clear hb ho66; obtain ⟨Ao67, co67, eo67⟩ := Kd.N_slice HO434.out; subst eo67) | ((with_reducible refine gate_callee (f := 35) rfl ?_); refine goesL_ (some 63) rfl rfl Try.func35 (by kernel_rfl) rfl #[.agg #[.int .i64 8, .int .i64 0, .slice Ao67 y432.length co67], .string a2] rfl (by (try simp only [List.map_toArray, List.map_cons, List.map_nil]); first | done | rfl | (simp only [List.length_drop, List.length_take]; rfl) | (simp only [Int.ofNat_lt, Int.ofNat_le]; rfl)) ?_; (with_reducible refine (expr_Match.calls kj3 8 0 _ _ y432 a2 t435 _ ?side1 ?side2 A45.out).mono ?_); (case side1 => repeat (first | exact (Kd.N_reads' HO434.out).2.2 | (with_reducible refine Kd.C_alloc ?_ _) | (with_reducible refine Kd.C_drewN ?_ _) | (with_reducible refine Kd.C_drew ?_))); (case side2 => exact (Kd.N_reads' HO434.out).2.1); rintro e w68 ⟨rfl, hb⟩; refine ⟨_, rfl, ?_⟩; have n0_ := Aside0.mk (Kd.V_below (by (with_reducible repeat (first | apply Kd.V_alloc | apply Kd.V_drewN | apply Kd.V_drew)); exact HO_415002.out) hb); have n1_ := Aside0.mk (Kd.V_below (by (with_reducible repeat (first | apply Kd.V_alloc | apply Kd.V_drewN | apply Kd.V_drew)); exact HO_416002.out) hb); have n2_ := Aside0.mk (Kd.N_below (by (with_reducible repeat (first | apply Kd.N_alloc | apply Kd.N_drewN | apply Kd.N_drew)); exact HO426.out) hb); have n3_ := Aside0.mk (Kd.N_below (by (with_reducible repeat (first | apply Kd.N_alloc | apply Kd.N_drewN | apply Kd.N_drew)); exact HO430.out) hb); have n4_ := Aside0.mk (Kd.N_below (by (with_reducible repeat (first | apply Kd.N_alloc | apply Kd.N_drewN | apply Kd.N_drew)); exact HO434.out) hb); have n5_ := Aside0.mk (blk_below (g := gb414) (o := .cells #[.int .i64 a0_0, .int .i64 a0_1, .slice A0_2 l0_2.length c0_2] 24 (0, 0)) (bK) hb); have n6_ := Aside0.mk (blk_below (g := gb415) (o := .cells #[.int .i64 a1_0, .int .i64 a1_1, .slice A1_2 l1_2.length c1_2] 24 (0, 0)) (bK) hb); have n7_ := Aside0.mk (below_step (bB) hb); clear HO_415002; clear HO_416002; clear HO426; clear HO430; clear HO434; clear BK414; clear BK415; clear HB; have HO_415002 := n0_; have HO_416002 := n1_; have HO426 := n2_; have HO430 := n3_; have HO434 := n4_; have BK414 := n5_; have BK415 := n6_; have HB := n7_; clear n0_ n1_ n2_ n3_ n4_ n5_ n6_ n7_; (try clear hb); (try clear hb2); (try clear hk); (try clear hi); refine Go.Proofs.YtjofkebiacaciaaW.PrintWords.FootX.wall_ ?_))
     refine ⟨?_⟩
     (try simp only [Act.put, List.setIfInBounds_toArray, List.set_cons_zero, List.set_cons_succ])
     have H := HC47.out
     clear HC47
     try clear c3
     try clear c38
     try clear c46
     try clear hcz52_0
     try clear hcz52_1
     try clear hcz52_2
     try clear hcz53_0
     try clear hcz53_1
     try clear hcz53_2
     try clear hcz58_0
     try clear hcz58_1
     try clear hcz58_2
     try clear hcz59_0
     try clear hcz59_1
     try clear hcz59_2
     try clear hcz64_0
     try clear hcz64_1
     try clear hcz64_2
     try clear hfz52_0
     try clear hfz52_1
     try clear hfz52_2
     try clear hfz53_0
     try clear hfz53_1
     try clear hfz53_2
     try clear hfz58_0
     try clear hfz58_1
     try clear hfz58_2
     try clear hfz59_0
     try clear hfz59_1
     try clear hfz59_2
     try clear hfz64_0
     try clear hfz64_1
     try clear hfz64_2
     by_cases c69 : (t427 == true) = true
     ·rw [if_pos c69] at H
      have c69b0 : (t427 == true) = true := c69
      (try (have c69b1 : decide (t427 = true) = true := by simpa using c69))
      (try (have c69b2 : (t427 == true) = true := by simpa using c69))
      (try (have c69b3 : t427 = true := by simpa using c69))
      clear c69
      (first | rw [c69b0] | (simp only [i64_w, i32_w]; rw [c69b0]) | skip)
      by_cases c70 : (t431 == t423) = true
      ·rw [if_pos c70] at H
       have c70b0 : (t431 == t423) = true := c70
       (try (have c70b1 : decide (t431 = t423) = true := by simpa using c70))
       (try (have c70b2 : (t431 == t423) = true := by simpa using c70))
       clear c70
       by_cases c71 : (t435 == (!true)) = true
       ·rw [if_pos c71] at H
        have c71b0 : (t435 == (!true)) = true := c71
        (try (have c71b1 : decide (t435 = (!true)) = true := by simpa using c71))
        (try (have c71b2 : (t435 == (!true)) = true := by simpa using c71))
        (try (have c71b3 : t435 = false := by simpa using c71))
        clear c71
        replace H := Option.bind_eq_some_iff.mp H
        obtain ⟨t436, A720, H⟩ := H
        replace H : (some t436) = some r := H
        have A72 := Aside0.mk A720
        clear A720
        obtain rfl := Option.some.inj H
        go_wp2_with (first | (go_at_call 17; (with_reducible refine (semigrouplaw04_awake.calls kj3  t436 _ A72.out).mono ?_); rintro e w73 ⟨rfl, hb⟩; have n0_ := Aside0.mk (Kd.V_below (by (with_reducible repeat (first | apply Kd.V_alloc | apply Kd.V_drewN | apply Kd.V_drew)); exact HO_415002.out) hb); have n1_ := Aside0.mk (Kd.V_below (by (with_reducible repeat (first | apply Kd.V_alloc | apply Kd.V_drewN | apply Kd.V_drew)); exact HO_416002.out) hb); have n2_ := Aside0.mk (Kd.N_below (by (with_reducible repeat (first | apply Kd.N_alloc | apply Kd.N_drewN | apply Kd.N_drew)); exact HO426.out) hb); have n3_ := Aside0.mk (Kd.N_below (by (with_reducible repeat (first | apply Kd.N_alloc | apply Kd.N_drewN | apply Kd.N_drew)); exact HO430.out) hb); have n4_ := Aside0.mk (Kd.N_below (by (with_reducible repeat (first | apply Kd.N_alloc | apply Kd.N_drewN | apply Kd.N_drew)); exact HO434.out) hb); have n5_ := Aside0.mk (blk_below (g := gb414) (o := .cells #[.int .i64 a0_0, .int .i64 a0_1, .slice A0_2 l0_2.length c0_2] 24 (0, 0)) (bK) hb); have n6_ := Aside0.mk (blk_below (g := gb415) (o := .cells #[.int .i64 a1_0, .int .i64 a1_1, .slice A1_2 l1_2.length c1_2] 24 (0, 0)) (bK) hb); have n7_ := Aside0.mk (below_step (bB) hb); clear HO_415002; clear HO_416002; clear HO426; clear HO430; clear HO434; clear BK414; clear BK415; clear HB; have HO_415002 := n0_; have HO_416002 := n1_; have HO426 := n2_; have HO430 := n3_; have HO434 := n4_; have BK414 := n5_; have BK415 := n6_; have HB := n7_; clear n0_ n1_ n2_ n3_ n4_ n5_ n6_ n7_; (try clear hb); (try clear hb2); (try clear hk); (try clear hi)))
        go_ret
        exact ⟨by first | rfl | (simp [errW_none, errW_some] <;> rfl) | (simp [*, errW_none, errW_some] <;> rfl), bB⟩
       ·rw [if_neg c71] at H
        have c71b0 : (t435 == (!true)) = false := by simpa using c71
        (try (have c71b1 : decide (t435 = (!true)) = false := by simpa using c71))
        (try (have c71b2 : (t435 == (!true)) = false := by simpa using c71))
        (try (have c71b3 : ¬ (t435 = (!true)) := by simpa using c71))
        (try (have c71b4 : t435 = true := by simpa using c71))
        clear c71
        obtain rfl := Option.some.inj H
        go_wp2
        go_ret
        exact ⟨by first | rfl | (simp [errW_none, errW_some] <;> rfl) | (simp [*, errW_none, errW_some] <;> rfl), bB⟩
      ·rw [if_neg c70] at H
       have c70b0 : (t431 == t423) = false := by simpa using c70
       (try (have c70b1 : decide (t431 = t423) = false := by simpa using c70))
       (try (have c70b2 : (t431 == t423) = false := by simpa using c70))
       (try (have c70b3 : ¬ (t431 = t423) := by simpa using c70))
       clear c70
       obtain rfl := Option.some.inj H
       go_wp2
       go_ret
       exact ⟨by first | rfl | (simp [errW_none, errW_some] <;> rfl) | (simp [*, errW_none, errW_some] <;> rfl), bB⟩
     ·rw [if_neg c69] at H
      have c69b0 : (t427 == true) = false := by simpa using c69
      (try (have c69b1 : decide (t427 = true) = false := by simpa using c69))
      (try (have c69b2 : (t427 == true) = false := by simpa using c69))
      (try (have c69b3 : ¬ (t427 = true) := by simpa using c69))
      (try (have c69b4 : t427 = false := by simpa using c69))
      clear c69
      (first | rw [c69b0] | (simp only [i64_w, i32_w]; rw [c69b0]) | skip)
      obtain rfl := Option.some.inj H
      go_wp2
      go_ret
      exact ⟨by first | rfl | (simp [errW_none, errW_some] <;> rfl) | (simp [*, errW_none, errW_some] <;> rfl), bB⟩
    ·replace c46 := Bool.eq_false_iff.mpr c46
     subst c46
     have H1 : (if (t427 == t423) = true then (if (t431 == false) = true then (if (t435 == (!false)) = true then ((semigrouplaw04_awake.f kj3).bind fun t437 => (some t437)) else (some false)) else (some false)) else (some false)) = some r := by rw [if_neg (show ¬ (false = true) by decide)] at H; exact H
     clear H
     have H := H1
     clear H1
     have HC74 := Aside0.mk H
     clear H
     try go_wp2
     have n0_ := Aside0.mk (Kd.V_drew HO_415002.out)
     have n1_ := Aside0.mk (Kd.V_drew HO_416002.out)
     have n2_ := Aside0.mk (blk_drew BK414.out)
     have n3_ := Aside0.mk (blk_drew BK415.out)
     have n4_ := Aside0.mk (below_drew1 HB.out)
     clear HO_415002
     clear HO_416002
     clear BK414
     clear BK415
     clear HB
     have HO_415002 := n0_
     have HO_416002 := n1_
     have BK414 := n2_
     have BK415 := n3_
     have HB := n4_
     clear n0_ n1_ n2_ n3_ n4_
     refine start_ (n := 8) (S := fun w' => w'.cell? ⟨gb414, 0, none⟩ = some (.int .i64 a0_0) ∧ w'.cell? ⟨gb414, 1, none⟩ = some (.int .i64 a0_1) ∧ w'.cell? ⟨gb414, 2, none⟩ = some (.slice A0_2 l0_2.length c0_2) ∧ w'.cell? ⟨gb415, 0, none⟩ = some (.int .i64 a1_0) ∧ w'.cell? ⟨gb415, 1, none⟩ = some (.int .i64 a1_1) ∧ w'.cell? ⟨gb415, 2, none⟩ = some (.slice A1_2 l1_2.length c1_2)) (ds := []) #[false, false, false, false, false, false, false, false] (by kernel_rfl) rfl rfl ⟨(blk_cell BK414.out 0).trans rfl, (blk_cell BK414.out 1).trans rfl, (blk_cell BK414.out 2).trans rfl, (blk_cell BK415.out 0).trans rfl, (blk_cell BK415.out 1).trans rfl, (blk_cell BK415.out 2).trans rfl⟩ (fun hHeld => ?_); refine with_tabW semigrouplaw04_ExprBoolean.tab3 semigrouplaw04_ExprBoolean.bits3 (fun HT_ HW_ => ?_)
     generalize wc.drew = w75 at HO_415002 HO_416002 BK414 BK415 HB hHeld ⊢
     refine pure_ (i := 1) (N := some 42) (v := ?_) (a' := ?_) #[false, true, false, false, false, false, false, false] rfl rfl (any_of HT_.out (by kernel_rfl)) (fun _ _ _ h => h) (Or.inl ⟨by rfl, ?_⟩) ?_ ?_
     rotate_left
     ·intro w'
      go_simp
      with_reducible rfl
     rotate_left
     ·simp only [Act.put, List.setIfInBounds_toArray, List.set_cons_zero, List.set_cons_succ, i64_w, i32_w]
      rfl
     refine pure_ (i := 4) (N := some 45) (v := ?_) (a' := ?_) #[false, true, false, false, true, false, false, false] rfl rfl (any_of HT_.out (by kernel_rfl)) (fun _ _ _ h => h) (Or.inl ⟨by rfl, ?_⟩) ?_ ?_
     rotate_left
     ·intro w'
      go_simp
      with_reducible rfl
     rotate_left
     ·simp only [Act.put, List.setIfInBounds_toArray, List.set_cons_zero, List.set_cons_succ, i64_w, i32_w]
      rfl
     refine take_ (i := 0) (N := some 41) (v := ?_) (a' := ?_) #[true, true, false, false, true, false, false, false] rfl rfl (take_ofW HT_.out HW_.out (by kernel_rfl)) (fun _ _ _ h => h) (Or.inl ⟨by rfl, ?_⟩) hHeld ?_ ?_
     rotate_left
     ·rintro w' ⟨s0, s1, s2, s3, s4, s5⟩
      go_simp
      with_reducible rfl
     rotate_left
     ·simp only [Act.put, List.setIfInBounds_toArray, List.set_cons_zero, List.set_cons_succ, i64_w, i32_w]
      rfl
     refine take_ (i := 3) (N := some 44) (v := ?_) (a' := ?_) #[true, true, false, true, true, false, false, false] rfl rfl (take_ofW HT_.out HW_.out (by kernel_rfl)) (fun _ _ _ h => h) (Or.inl ⟨by rfl, ?_⟩) hHeld ?_ ?_
     rotate_left
     ·rintro w' ⟨s0, s1, s2, s3, s4, s5⟩
      go_simp
      with_reducible rfl
     rotate_left
     ·simp only [Act.put, List.setIfInBounds_toArray, List.set_cons_zero, List.set_cons_succ, i64_w, i32_w]
      rfl
     refine one_ (i := 2) (N := some 43) #[true, true, true, true, true, false, false, false] rfl rfl (one_of HT_.out (by kernel_rfl)) (by decide) (fun K hK => ?_)
     refine goes_ Try.func35 (by kernel_rfl) rfl #[.agg #[.int .i64 a0_0, .int .i64 a0_1, .slice A0_2 l0_2.length c0_2], .string a2] (by rfl) rfl rfl (by (try simp only [List.map_toArray, List.map_cons, List.map_nil]); first | done | rfl | (simp only [List.length_drop, List.length_take]; rfl)) ?_
     with_reducible refine (expr_Match.calls kj3 a0_0 a0_1 _ _ l0_2 a2 false _ ?side1 ?side2 A41.out).mono ?_
     (case side1 => repeat (first | exact (Kd.V_reads' HO_415002.out).2.2 | (with_reducible refine Kd.C_alloc ?_ _) | (with_reducible refine Kd.C_drewN ?_ _) | (with_reducible refine Kd.C_drew ?_)))
     (case side2 => exact (Kd.V_reads' HO_415002.out).2.1)
     rintro e w76 ⟨rfl, hb⟩
     refine ⟨_, rfl, ?_⟩
     have n0_ := Aside0.mk (Kd.V_below (by (with_reducible repeat (first | apply Kd.V_alloc | apply Kd.V_drewN | apply Kd.V_drew)); exact HO_415002.out) hb)
     have n1_ := Aside0.mk (Kd.V_below (by (with_reducible repeat (first | apply Kd.V_alloc | apply Kd.V_drewN | apply Kd.V_drew)); exact HO_416002.out) hb)
     have n2_ := Aside0.mk (blk_below (g := gb414) (o := .cells #[.int .i64 a0_0, .int .i64 a0_1, .slice A0_2 l0_2.length c0_2] 24 (0, 0)) (bK) hb)
     have n3_ := Aside0.mk (blk_below (g := gb415) (o := .cells #[.int .i64 a1_0, .int .i64 a1_1, .slice A1_2 l1_2.length c1_2] 24 (0, 0)) (bK) hb)
     have n4_ := Aside0.mk (below_step (bB) hb)
     clear HO_415002
     clear HO_416002
     clear BK414
     clear BK415
     clear HB
     have HO_415002 := n0_
     have HO_416002 := n1_
     have BK414 := n2_
     have BK415 := n3_
     have HB := n4_
     clear n0_ n1_ n2_ n3_ n4_
     (try clear hb)
     (try clear hb2)
     (try clear hk)
     (try clear hi)
     refine hK.out _ _ ⟨(blk_cell BK414.out 0).trans rfl, (blk_cell BK414.out 1).trans rfl, (blk_cell BK414.out 2).trans rfl, (blk_cell BK415.out 0).trans rfl, (blk_cell BK415.out 1).trans rfl, (blk_cell BK415.out 2).trans rfl⟩ (fun hHeld => ?_)
     clear hK K
     refine norm_ (a' := ?_) ?_ ?_
     rotate_left
     ·show Act.put _ (some 43) _ = _
      simp only [Act.put, List.setIfInBounds_toArray, List.set_cons_zero, List.set_cons_succ, i64_w, i32_w]
      rfl
     refine one_ (i := 5) (N := some 46) #[true, true, true, true, true, true, false, false] rfl rfl (one_of HT_.out (by kernel_rfl)) (by decide) (fun K hK => ?_)
     refine goes_ Try.func35 (by kernel_rfl) rfl #[.agg #[.int .i64 a1_0, .int .i64 a1_1, .slice A1_2 l1_2.length c1_2], .string a2] (by rfl) rfl rfl (by (try simp only [List.map_toArray, List.map_cons, List.map_nil]); first | done | rfl | (simp only [List.length_drop, List.length_take]; rfl)) ?_
     with_reducible refine (expr_Match.calls kj3 a1_0 a1_1 _ _ l1_2 a2 t423 _ ?side1 ?side2 A42.out).mono ?_
     (case side1 => repeat (first | exact (Kd.V_reads' HO_416002.out).2.2 | (with_reducible refine Kd.C_alloc ?_ _) | (with_reducible refine Kd.C_drewN ?_ _) | (with_reducible refine Kd.C_drew ?_)))
     (case side2 => exact (Kd.V_reads' HO_416002.out).2.1)
     rintro e w77 ⟨rfl, hb⟩
     refine ⟨_, rfl, ?_⟩
     have n0_ := Aside0.mk (Kd.V_below (by (with_reducible repeat (first | apply Kd.V_alloc | apply Kd.V_drewN | apply Kd.V_drew)); exact HO_415002.out) hb)
     have n1_ := Aside0.mk (Kd.V_below (by (with_reducible repeat (first | apply Kd.V_alloc | apply Kd.V_drewN | apply Kd.V_drew)); exact HO_416002.out) hb)
     have n2_ := Aside0.mk (blk_below (g := gb414) (o := .cells #[.int .i64 a0_0, .int .i64 a0_1, .slice A0_2 l0_2.length c0_2] 24 (0, 0)) (bK) hb)
     have n3_ := Aside0.mk (blk_below (g := gb415) (o := .cells #[.int .i64 a1_0, .int .i64 a1_1, .slice A1_2 l1_2.length c1_2] 24 (0, 0)) (bK) hb)
     have n4_ := Aside0.mk (below_step (bB) hb)
     clear HO_415002
     clear HO_416002
     clear BK414
     clear BK415
     clear HB
     have HO_415002 := n0_
     have HO_416002 := n1_
     have BK414 := n2_
     have BK415 := n3_
     have HB := n4_
     clear n0_ n1_ n2_ n3_ n4_
     (try clear hb)
     (try clear hb2)
     (try clear hk)
     (try clear hi)
     refine hK.out _ _ ⟨(blk_cell BK414.out 0).trans rfl, (blk_cell BK414.out 1).trans rfl, (blk_cell BK414.out 2).trans rfl, (blk_cell BK415.out 0).trans rfl, (blk_cell BK415.out 1).trans rfl, (blk_cell BK415.out 2).trans rfl⟩ (fun hHeld => ?_)
     clear hK K
     refine norm_ (a' := ?_) ?_ ?_
     rotate_left
     ·show Act.put _ (some 46) _ = _
      simp only [Act.put, List.setIfInBounds_toArray, List.set_cons_zero, List.set_cons_succ, i64_w, i32_w]
      rfl
     refine pure_ (i := 6) (N := some 7) (v := ?_) (a' := ?_) #[true, true, true, true, true, true, true, false] rfl rfl (any_of HT_.out (by kernel_rfl)) (fun _ _ _ h => h) (Or.inl ⟨by rfl, ?_⟩) ?_ ?_
     rotate_left
     ·intro w'
      go_simp
      with_reducible rfl
     rotate_left
     ·simp only [Act.put, List.setIfInBounds_toArray, List.set_cons_zero, List.set_cons_succ, i64_w, i32_w]
      rfl
     refine pure_ (i := 7) (N := some 8) (v := ?_) (a' := ?_) #[true, true, true, true, true, true, true, true] rfl rfl (any_of HT_.out (by kernel_rfl)) (fun _ _ _ h => h) (Or.inl ⟨by rfl, ?_⟩) ?_ ?_
     rotate_left
     ·intro w'
      go_simp
      with_reducible rfl
     rotate_left
     ·simp only [Act.put, List.setIfInBounds_toArray, List.set_cons_zero, List.set_cons_succ, i64_w, i32_w]
      rfl
     refine done_ (done_of HT_.out (by kernel_rfl)) ?_
     have hnb78 := NB414_415.out
     have hnc78 := NB415_414.out
     have hcz79_0 : w77.cell? ⟨gb414, 0, none⟩ = some (.int .i64 a0_0) := (blk_cell BK414.out 0).trans rfl
     have hcz79_1 : w77.cell? ⟨gb414, 1, none⟩ = some (.int .i64 a0_1) := (blk_cell BK414.out 1).trans rfl
     have hcz79_2 : w77.cell? ⟨gb414, 2, none⟩ = some (.slice A0_2 l0_2.length c0_2) := (blk_cell BK414.out 2).trans rfl
     have hfz79_0 := blk_frozen BK414.out 0
     have hfz79_1 := blk_frozen BK414.out 1
     have hfz79_2 := blk_frozen BK414.out 2
     have hcz80_0 : w77.cell? ⟨gb415, 0, none⟩ = some (.int .i64 a1_0) := (blk_cell BK415.out 0).trans rfl
     have hcz80_1 : w77.cell? ⟨gb415, 1, none⟩ = some (.int .i64 a1_1) := (blk_cell BK415.out 1).trans rfl
     have hcz80_2 : w77.cell? ⟨gb415, 2, none⟩ = some (.slice A1_2 l1_2.length c1_2) := (blk_cell BK415.out 2).trans rfl
     have hfz80_0 := blk_frozen BK415.out 0
     have hfz80_1 := blk_frozen BK415.out 1
     have hfz80_2 := blk_frozen BK415.out 2
     go_wp2_with (first | ((with_reducible refine gate_dst (N := 49) rfl ?_); (try (refine gate_guard (by rfl) ?_; dsimp only)); refine Kd.N_lit k24 _ 24 ?hg (N' := 49) ?hd (xs := ([(⟨a0_0, a0_1, l0_2⟩ : S24), (⟨a1_0, a1_1, l1_2⟩ : S24)] : List (S24))) (inner := [.int .i64 a0_0, .int .i64 a0_1, .slice A0_2 l0_2.length c0_2, .int .i64 a1_0, .int .i64 a1_1, .slice A1_2 l1_2.length c1_2]) (ok := (fun k_ => ((P0_2_ k_ ∨ P1_2_ k_) ∨ w.heap.size ≤ k_) ∧ k_ ≠ gb414 ∧ k_ ≠ gb415)) (okp := (fun k_ => ((P0_2_ k_ ∨ P1_2_ k_) ∨ w.heap.size ≤ k_) ∧ k_ ≠ gb414 ∧ k_ ≠ gb415)) ?hr ?hp (fun _ hk => hk) ((show ∀ k_, w77.heap.size ≤ k_ → (fun k_ => ((P0_2_ k_ ∨ P1_2_ k_) ∨ w.heap.size ≤ k_) ∧ k_ ≠ gb414 ∧ k_ ≠ gb415) k_ from fun k_ hk => ⟨(.inr (Nat.le_trans (below_size (bB)) hk)), Kd.freshB (g := gb414) (o := .cells #[.int .i64 a0_0, .int .i64 a0_1, .slice A0_2 l0_2.length c0_2] 24 (0, 0)) (bK) k_ hk, Kd.freshB (g := gb415) (o := .cells #[.int .i64 a1_0, .int .i64 a1_1, .slice A1_2 l1_2.length c1_2] 24 (0, 0)) (bK) k_ hk⟩) _ (Nat.le_refl _)) (Below.refl _ _) (Nat.le_refl _) (by simp) ?_; (case hd => rfl); (case hg => rfl); (case hr => first | (go_simp; done) | (go_simp; rfl)); (case hp => exact (Reps.c3 (show Kd.FK k24 _ _ (⟨a0_0, a0_1, l0_2⟩ : S24) [.int .i64 a0_0, .int .i64 a0_1, .slice A0_2 l0_2.length c0_2] from (k24_mkF _ _ (⟨a0_0, a0_1, l0_2⟩ : S24) (Kd.V_reads' (Kd.V_mono (ok' := (fun k_ => ((P0_2_ k_ ∨ P1_2_ k_) ∨ w.heap.size ≤ k_) ∧ k_ ≠ gb414 ∧ k_ ≠ gb415)) (HO_415002.out) (fun k_ hk => ⟨hk.1, ⟨hk.2.1, hk.2.2⟩⟩))).2.1 (Kd.V_F (Kd.V_mono (ok' := (fun k_ => ((P0_2_ k_ ∨ P1_2_ k_) ∨ w.heap.size ≤ k_) ∧ k_ ≠ gb414 ∧ k_ ≠ gb415)) (HO_415002.out) (fun k_ hk => ⟨hk.1, ⟨hk.2.1, hk.2.2⟩⟩))))) (Reps.c3 (show Kd.FK k24 _ _ (⟨a1_0, a1_1, l1_2⟩ : S24) [.int .i64 a1_0, .int .i64 a1_1, .slice A1_2 l1_2.length c1_2] from (k24_mkF _ _ (⟨a1_0, a1_1, l1_2⟩ : S24) (Kd.V_reads' (Kd.V_mono (ok' := (fun k_ => ((P0_2_ k_ ∨ P1_2_ k_) ∨ w.heap.size ≤ k_) ∧ k_ ≠ gb414 ∧ k_ ≠ gb415)) (HO_416002.out) (fun k_ hk => ⟨hk.1, ⟨hk.2.1, hk.2.2⟩⟩))).2.1 (Kd.V_F (Kd.V_mono (ok' := (fun k_ => ((P0_2_ k_ ∨ P1_2_ k_) ∨ w.heap.size ≤ k_) ∧ k_ ≠ gb414 ∧ k_ ≠ gb415)) (HO_416002.out) (fun k_ hk => ⟨hk.1, ⟨hk.2.1, hk.2.2⟩⟩))))) (Reps.none _ _)))); intro v425 w81 ho82 hb hg_ hnew_; clear hg_ hnew_; (first | rw [← Ny424.out] at ho82 | (simp only [Int.reduceToNat] at ho82; rw [← Ny424.out] at ho82)); have n0_ := Aside0.mk (Kd.V_elder' (by (with_reducible repeat (first | apply Kd.V_alloc | apply Kd.V_drewN | apply Kd.V_drew)); exact HO_415002.out) (Kd.N_base ho82) hb); have n1_ := Aside0.mk (Kd.V_elder' (by (with_reducible repeat (first | apply Kd.V_alloc | apply Kd.V_drewN | apply Kd.V_drew)); exact HO_416002.out) (Kd.N_base ho82) hb); have n2_ := Aside0.mk (Kd.N_lower ho82 (below_size (bB))); have n3_ := Aside0.mk (blk_below (g := gb414) (o := .cells #[.int .i64 a0_0, .int .i64 a0_1, .slice A0_2 l0_2.length c0_2] 24 (0, 0)) (bK) hb); have n4_ := Aside0.mk (blk_below (g := gb415) (o := .cells #[.int .i64 a1_0, .int .i64 a1_1, .slice A1_2 l1_2.length c1_2] 24 (0, 0)) (bK) hb); have n5_ := Aside0.mk (below_step (bB) hb); clear HO_415002; clear HO_416002; clear BK414; clear BK415; clear HB; have HO_415002 := n0_; have HO_416002 := n1_; have HO426 := n2_; have BK414 := n3_; have BK415 := n4_; have HB := n5_; clear n0_ n1_ n2_ n3_ n4_ n5_; clear hb ho82; obtain ⟨Ao83, co83, eo83⟩ := Kd.N_slice HO426.out; subst eo83) | ((with_reducible refine gate_callee (f := 35) rfl ?_); refine goesL_ (some 52) rfl rfl Try.func35 (by kernel_rfl) rfl #[.agg #[.int .i64 4, .int .i64 0, .slice Ao83 y424.length co83], .string a2] rfl (by (try simp only [List.map_toArray, List.map_cons, List.map_nil]); first | done | rfl | (simp only [List.length_drop, List.length_take]; rfl) | (simp only [Int.ofNat_lt, Int.ofNat_le]; rfl)) ?_; (with_reducible refine (expr_Match.calls kj3 4 0 _ _ y424 a2 t427 _ ?side1 ?side2 A43.out).mono ?_); (case side1 => repeat (first | exact (Kd.N_reads' HO426.out).2.2 | (with_reducible refine Kd.C_alloc ?_ _) | (with_reducible refine Kd.C_drewN ?_ _) | (with_reducible refine Kd.C_drew ?_))); (case side2 => exact (Kd.N_reads' HO426.out).2.1); rintro e w84 ⟨rfl, hb⟩; refine ⟨_, rfl, ?_⟩; have n0_ := Aside0.mk (Kd.V_below (by (with_reducible repeat (first | apply Kd.V_alloc | apply Kd.V_drewN | apply Kd.V_drew)); exact HO_415002.out) hb); have n1_ := Aside0.mk (Kd.V_below (by (with_reducible repeat (first | apply Kd.V_alloc | apply Kd.V_drewN | apply Kd.V_drew)); exact HO_416002.out) hb); have n2_ := Aside0.mk (Kd.N_below (by (with_reducible repeat (first | apply Kd.N_alloc | apply Kd.N_drewN | apply Kd.N_drew)); exact HO426.out) hb); have n3_ := Aside0.mk (blk_below (g := gb414) (o := .cells #[.int .i64 a0_0, .int .i64 a0_1, .slice A0_2 l0_2.length c0_2] 24 (0, 0)) (bK) hb); have n4_ := Aside0.mk (blk_below (g := gb415) (o := .cells #[.int .i64 a1_0, .int .i64 a1_1, .slice A1_2 l1_2.length c1_2] 24 (0, 0)) (bK) hb); have n5_ := Aside0.mk (below_step (bB) hb); clear HO_415002; clear HO_416002; clear HO426; clear BK414; clear BK415; clear HB; have HO_415002 := n0_; have HO_416002 := n1_; have HO426 := n2_; have BK414 := n3_; have BK415 := n4_; have HB := n5_; clear n0_ n1_ n2_ n3_ n4_ n5_; (try clear hb); (try clear hb2); (try clear hk); (try clear hi); have hcz85_0 : w84.cell? ⟨gb414, 0, none⟩ = some (.int .i64 a0_0) := (blk_cell BK414.out 0).trans rfl; have hcz85_1 : w84.cell? ⟨gb414, 1, none⟩ = some (.int .i64 a0_1) := (blk_cell BK414.out 1).trans rfl; have hcz85_2 : w84.cell? ⟨gb414, 2, none⟩ = some (.slice A0_2 l0_2.length c0_2) := (blk_cell BK414.out 2).trans rfl; have hfz85_0 := blk_frozen BK414.out 0; have hfz85_1 := blk_frozen BK414.out 1; have hfz85_2 := blk_frozen BK414.out 2; have hcz86_0 : w84.cell? ⟨gb415, 0, none⟩ = some (.int .i64 a1_0) := (blk_cell BK415.out 0).trans rfl; have hcz86_1 : w84.cell? ⟨gb415, 1, none⟩ = some (.int .i64 a1_1) := (blk_cell BK415.out 1).trans rfl; have hcz86_2 : w84.cell? ⟨gb415, 2, none⟩ = some (.slice A1_2 l1_2.length c1_2) := (blk_cell BK415.out 2).trans rfl; have hfz86_0 := blk_frozen BK415.out 0; have hfz86_1 := blk_frozen BK415.out 1; have hfz86_2 := blk_frozen BK415.out 2) | ((with_reducible refine gate_dst (N := 55) rfl ?_); (try (refine gate_guard (by rfl) ?_; dsimp only)); refine Kd.N_lit k24 _ 24 ?hg (N' := 55) ?hd (xs := ([(⟨a0_0, a0_1, l0_2⟩ : S24), (⟨a1_0, a1_1, l1_2⟩ : S24)] : List (S24))) (inner := [.int .i64 a0_0, .int .i64 a0_1, .slice A0_2 l0_2.length c0_2, .int .i64 a1_0, .int .i64 a1_1, .slice A1_2 l1_2.length c1_2]) (ok := (fun k_ => ((P0_2_ k_ ∨ P1_2_ k_) ∨ w.heap.size ≤ k_) ∧ some k_ ≠ (.slice Ao83 y424.length co83 : Value).ownBlock ∧ k_ ≠ gb414 ∧ k_ ≠ gb415)) (okp := (fun k_ => ((P0_2_ k_ ∨ P1_2_ k_) ∨ w.heap.size ≤ k_) ∧ some k_ ≠ (.slice Ao83 y424.length co83 : Value).ownBlock ∧ k_ ≠ gb414 ∧ k_ ≠ gb415)) ?hr ?hp (fun _ hk => hk) ((show ∀ k_, w84.heap.size ≤ k_ → (fun k_ => ((P0_2_ k_ ∨ P1_2_ k_) ∨ w.heap.size ≤ k_) ∧ some k_ ≠ (.slice Ao83 y424.length co83 : Value).ownBlock ∧ k_ ≠ gb414 ∧ k_ ≠ gb415) k_ from fun k_ hk => ⟨(.inr (Nat.le_trans (below_size (bB)) hk)), Kd.fresh' (Kd.N_lt (by (with_reducible repeat (first | apply Kd.N_alloc | apply Kd.N_drewN | apply Kd.N_drew)); exact HO426.out)) k_ hk, Kd.freshB (g := gb414) (o := .cells #[.int .i64 a0_0, .int .i64 a0_1, .slice A0_2 l0_2.length c0_2] 24 (0, 0)) (bK) k_ hk, Kd.freshB (g := gb415) (o := .cells #[.int .i64 a1_0, .int .i64 a1_1, .slice A1_2 l1_2.length c1_2] 24 (0, 0)) (bK) k_ hk⟩) _ (Nat.le_refl _)) (Below.refl _ _) (Nat.le_refl _) (by simp) ?_; (case hd => rfl); (case hg => rfl); (case hr => first | (go_simp; done) | (go_simp; rfl)); (case hp => exact (Reps.c3 (show Kd.FK k24 _ _ (⟨a0_0, a0_1, l0_2⟩ : S24) [.int .i64 a0_0, .int .i64 a0_1, .slice A0_2 l0_2.length c0_2] from (k24_mkF _ _ (⟨a0_0, a0_1, l0_2⟩ : S24) (Kd.V_reads' (Kd.V_mono (ok' := (fun k_ => ((P0_2_ k_ ∨ P1_2_ k_) ∨ w.heap.size ≤ k_) ∧ some k_ ≠ (.slice Ao83 y424.length co83 : Value).ownBlock ∧ k_ ≠ gb414 ∧ k_ ≠ gb415)) (HO_415002.out) (fun k_ hk => ⟨hk.1.1, ⟨hk.2, ⟨hk.1.2.1, hk.1.2.2⟩⟩⟩))).2.1 (Kd.V_F (Kd.V_mono (ok' := (fun k_ => ((P0_2_ k_ ∨ P1_2_ k_) ∨ w.heap.size ≤ k_) ∧ some k_ ≠ (.slice Ao83 y424.length co83 : Value).ownBlock ∧ k_ ≠ gb414 ∧ k_ ≠ gb415)) (HO_415002.out) (fun k_ hk => ⟨hk.1.1, ⟨hk.2, ⟨hk.1.2.1, hk.1.2.2⟩⟩⟩))))) (Reps.c3 (show Kd.FK k24 _ _ (⟨a1_0, a1_1, l1_2⟩ : S24) [.int .i64 a1_0, .int .i64 a1_1, .slice A1_2 l1_2.length c1_2] from (k24_mkF _ _ (⟨a1_0, a1_1, l1_2⟩ : S24) (Kd.V_reads' (Kd.V_mono (ok' := (fun k_ => ((P0_2_ k_ ∨ P1_2_ k_) ∨ w.heap.size ≤ k_) ∧ some k_ ≠ (.slice Ao83 y424.length co83 : Value).ownBlock ∧ k_ ≠ gb414 ∧ k_ ≠ gb415)) (HO_416002.out) (fun k_ hk => ⟨hk.1.1, ⟨hk.2, ⟨hk.1.2.1, hk.1.2.2⟩⟩⟩))).2.1 (Kd.V_F (Kd.V_mono (ok' := (fun k_ => ((P0_2_ k_ ∨ P1_2_ k_) ∨ w.heap.size ≤ k_) ∧ some k_ ≠ (.slice Ao83 y424.length co83 : Value).ownBlock ∧ k_ ≠ gb414 ∧ k_ ≠ gb415)) (HO_416002.out) (fun k_ hk => ⟨hk.1.1, ⟨hk.2, ⟨hk.1.2.1, hk.1.2.2⟩⟩⟩))))) (Reps.none _ _)))); intro v429 w87 ho88 hb hg_ hnew_; clear hg_ hnew_; (first | rw [← Ny428.out] at ho88 | (simp only [Int.reduceToNat] at ho88; rw [← Ny428.out] at ho88)); have n0_ := Aside0.mk (Kd.V_elder' (by (with_reducible repeat (first | apply Kd.V_alloc | apply Kd.V_drewN | apply Kd.V_drew)); exact HO_415002.out) (Kd.N_base ho88) hb); have n1_ := Aside0.mk (Kd.V_elder' (by (with_reducible repeat (first | apply Kd.V_alloc | apply Kd.V_drewN | apply Kd.V_drew)); exact HO_416002.out) (Kd.N_base ho88) hb); have n2_ := Aside0.mk (Kd.N_elder' (by (with_reducible repeat (first | apply Kd.N_alloc | apply Kd.N_drewN | apply Kd.N_drew)); exact HO426.out) (Kd.N_base ho88) hb); have n3_ := Aside0.mk (Kd.N_lower ho88 (below_size (bB))); have n4_ := Aside0.mk (blk_below (g := gb414) (o := .cells #[.int .i64 a0_0, .int .i64 a0_1, .slice A0_2 l0_2.length c0_2] 24 (0, 0)) (bK) hb); have n5_ := Aside0.mk (blk_below (g := gb415) (o := .cells #[.int .i64 a1_0, .int .i64 a1_1, .slice A1_2 l1_2.length c1_2] 24 (0, 0)) (bK) hb); have n6_ := Aside0.mk (below_step (bB) hb); clear HO_415002; clear HO_416002; clear HO426; clear BK414; clear BK415; clear HB; have HO_415002 := n0_; have HO_416002 := n1_; have HO426 := n2_; have HO430 := n3_; have BK414 := n4_; have BK415 := n5_; have HB := n6_; clear n0_ n1_ n2_ n3_ n4_ n5_ n6_; clear hb ho88; obtain ⟨Ao89, co89, eo89⟩ := Kd.N_slice HO430.out; subst eo89) | ((with_reducible refine gate_callee (f := 35) rfl ?_); refine goesL_ (some 58) rfl rfl Try.func35 (by kernel_rfl) rfl #[.agg #[.int .i64 6, .int .i64 0, .slice Ao89 y428.length co89], .string a2] rfl (by (try simp only [List.map_toArray, List.map_cons, List.map_nil]); first | done | rfl | (simp only [List.length_drop, List.length_take]; rfl) | (simp only [Int.ofNat_lt, Int.ofNat_le]; rfl)) ?_; (with_reducible refine (expr_Match.calls kj3 6 0 _ _ y428 a2 t431 _ ?side1 ?side2 A44.out).mono ?_); (case side1 => repeat (first | exact (Kd.N_reads' HO430.out).2.2 | (with_reducible refine Kd.C_alloc ?_ _) | (with_reducible refine Kd.C_drewN ?_ _) | (with_reducible refine Kd.C_drew ?_))); (case side2 => exact (Kd.N_reads' HO430.out).2.1); rintro e w90 ⟨rfl, hb⟩; refine ⟨_, rfl, ?_⟩; have n0_ := Aside0.mk (Kd.V_below (by (with_reducible repeat (first | apply Kd.V_alloc | apply Kd.V_drewN | apply Kd.V_drew)); exact HO_415002.out) hb); have n1_ := Aside0.mk (Kd.V_below (by (with_reducible repeat (first | apply Kd.V_alloc | apply Kd.V_drewN | apply Kd.V_drew)); exact HO_416002.out) hb); have n2_ := Aside0.mk (Kd.N_below (by (with_reducible repeat (first | apply Kd.N_alloc | apply Kd.N_drewN | apply Kd.N_drew)); exact HO426.out) hb); have n3_ := Aside0.mk (Kd.N_below (by (with_reducible repeat (first | apply Kd.N_alloc | apply Kd.N_drewN | apply Kd.N_drew)); exact HO430.out) hb); have n4_ := Aside0.mk (blk_below (g := gb414) (o := .cells #[.int .i64 a0_0, .int .i64 a0_1, .slice A0_2 l0_2.length c0_2] 24 (0, 0)) (bK) hb); have n5_ := Aside0.mk (blk_below (g := gb415) (o := .cells #[.int .i64 a1_0, .int .i64 a1_1, .slice A1_2 l1_2.length c1_2] 24 (0, 0)) (bK) hb); have n6_ := Aside0.mk (below_step (bB) hb); clear HO_415002; clear HO_416002; clear HO426; clear HO430; clear BK414; clear BK415; clear HB; have HO_415002 := n0_; have HO_416002 := n1_; have HO426 := n2_; have HO430 := n3_; have BK414 := n4_; have BK415 := n5_; have HB := n6_; clear n0_ n1_ n2_ n3_ n4_ n5_ n6_; (try clear hb); (try clear hb2); (try clear hk); (try clear hi); have hcz91_0 : w90.cell? ⟨gb414, 0, none⟩ = some (.int .i64 a0_0) := (blk_cell BK414.out 0).trans rfl; have hcz91_1 : w90.cell? ⟨gb414, 1, none⟩ = some (.int .i64 a0_1) := (blk_cell BK414.out 1).trans rfl; have hcz91_2 : w90.cell? ⟨gb414, 2, none⟩ = some (.slice A0_2 l0_2.length c0_2) := (blk_cell BK414.out 2).trans rfl; have hfz91_0 := blk_frozen BK414.out 0; have hfz91_1 := blk_frozen BK414.out 1; have hfz91_2 := blk_frozen BK414.out 2) | ((with_reducible refine gate_dst (N := 60) rfl ?_); (try (refine gate_guard (by rfl) ?_; dsimp only)); refine Kd.N_lit k24 _ 24 ?hg (N' := 60) ?hd (xs := ([(⟨a0_0, a0_1, l0_2⟩ : S24)] : List (S24))) (inner := [.int .i64 a0_0, .int .i64 a0_1, .slice A0_2 l0_2.length c0_2]) (ok := (fun k_ => ((P0_2_ k_ ∨ P1_2_ k_) ∨ w.heap.size ≤ k_) ∧ some k_ ≠ (.slice Ao83 y424.length co83 : Value).ownBlock ∧ some k_ ≠ (.slice Ao89 y428.length co89 : Value).ownBlock ∧ k_ ≠ gb414 ∧ k_ ≠ gb415)) (okp := (fun k_ => ((P0_2_ k_ ∨ P1_2_ k_) ∨ w.heap.size ≤ k_) ∧ some k_ ≠ (.slice Ao83 y424.length co83 : Value).ownBlock ∧ some k_ ≠ (.slice Ao89 y428.length co89 : Value).ownBlock ∧ k_ ≠ gb414 ∧ k_ ≠ gb415)) ?hr ?hp (fun _ hk => hk) ((show ∀ k_, w90.heap.size ≤ k_ → (fun k_ => ((P0_2_ k_ ∨ P1_2_ k_) ∨ w.heap.size ≤ k_) ∧ some k_ ≠ (.slice Ao83 y424.length co83 : Value).ownBlock ∧ some k_ ≠ (.slice Ao89 y428.length co89 : Value).ownBlock ∧ k_ ≠ gb414 ∧ k_ ≠ gb415) k_ from fun k_ hk => ⟨(.inr (Nat.le_trans (below_size (bB)) hk)), Kd.fresh' (Kd.N_lt (by (with_reducible repeat (first | apply Kd.N_alloc | apply Kd.N_drewN | apply Kd.N_drew)); exact HO426.out)) k_ hk, Kd.fresh' (Kd.N_lt (by (with_reducible repeat (first | apply Kd.N_alloc | apply Kd.N_drewN | apply Kd.N_drew)); exact HO430.out)) k_ hk, Kd.freshB (g := gb414) (o := .cells #[.int .i64 a0_0, .int .i64 a0_1, .slice A0_2 l0_2.length c0_2] 24 (0, 0)) (bK) k_ hk, Kd.freshB (g := gb415) (o := .cells #[.int .i64 a1_0, .int .i64 a1_1, .slice A1_2 l1_2.length c1_2] 24 (0, 0)) (bK) k_ hk⟩) _ (Nat.le_refl _)) (Below.refl _ _) (Nat.le_refl _) (by simp) ?_; (case hd => rfl); (case hg => rfl); (case hr => first | (go_simp; done) | (go_simp; rfl)); (case hp => exact (Reps.c3 (show Kd.FK k24 _ _ (⟨a0_0, a0_1, l0_2⟩ : S24) [.int .i64 a0_0, .int .i64 a0_1, .slice A0_2 l0_2.length c0_2] from (k24_mkF _ _ (⟨a0_0, a0_1, l0_2⟩ : S24) (Kd.V_reads' (Kd.V_mono (ok' := (fun k_ => ((P0_2_ k_ ∨ P1_2_ k_) ∨ w.heap.size ≤ k_) ∧ some k_ ≠ (.slice Ao83 y424.length co83 : Value).ownBlock ∧ some k_ ≠ (.slice Ao89 y428.length co89 : Value).ownBlock ∧ k_ ≠ gb414 ∧ k_ ≠ gb415)) (HO_415002.out) (fun k_ hk => ⟨hk.1.1.1, ⟨hk.1.2, ⟨hk.2, ⟨hk.1.1.2.1, hk.1.1.2.2⟩⟩⟩⟩))).2.1 (Kd.V_F (Kd.V_mono (ok' := (fun k_ => ((P0_2_ k_ ∨ P1_2_ k_) ∨ w.heap.size ≤ k_) ∧ some k_ ≠ (.slice Ao83 y424.length co83 : Value).ownBlock ∧ some k_ ≠ (.slice Ao89 y428.length co89 : Value).ownBlock ∧ k_ ≠ gb414 ∧ k_ ≠ gb415)) (HO_415002.out) (fun k_ hk => ⟨hk.1.1.1, ⟨hk.1.2, ⟨hk.2, ⟨hk.1.1.2.1, hk.1.1.2.2⟩⟩⟩⟩))))) (Reps.none _ _))); intro v433 w92 ho93 hb hg_ hnew_; clear hg_ hnew_; (first | rw [← Ny432.out] at ho93 | (simp only [Int.reduceToNat] at ho93; rw [← Ny432.out] at ho93)); have n0_ := Aside0.mk (Kd.V_elder' (by (with_reducible repeat (first | apply Kd.V_alloc | apply Kd.V_drewN | apply Kd.V_drew)); exact HO_415002.out) (Kd.N_base ho93) hb); have n1_ := Aside0.mk (Kd.V_elder' (by (with_reducible repeat (first | apply Kd.V_alloc | apply Kd.V_drewN | apply Kd.V_drew)); exact HO_416002.out) (Kd.N_base ho93) hb); have n2_ := Aside0.mk (Kd.N_elder' (by (with_reducible repeat (first | apply Kd.N_alloc | apply Kd.N_drewN | apply Kd.N_drew)); exact HO426.out) (Kd.N_base ho93) hb); have n3_ := Aside0.mk (Kd.N_elder' (by (with_reducible repeat (first | apply Kd.N_alloc | apply Kd.N_drewN | apply Kd.N_drew)); exact HO430.out) (Kd.N_base ho93) hb); have n4_ := Aside0.mk (Kd.N_lower ho93 (below_size (bB))); have n5_ := Aside0.mk (blk_below (g := gb414) (o := .cells #[.int .i64 a0_0, .int .i64 a0_1, .slice A0_2 l0_2.length c0_2] 24 (0, 0)) (bK) hb); have n6_ := Aside0.mk (blk_below (g := gb415) (o := .cells #[.int .i64 a1_0, .int .i64 a1_1, .slice A1_2 l1_2.length c1_2] 24 (0, 0)) (bK) hb); have n7_ := Aside0.mk (below_step (bB) hb); clear HO_415002; clear HO_416002; clear HO426; clear HO430; clear BK414; clear BK415; clear HB; have HO_415002 := n0_; have HO_416002 := n1_; have HO426 := n2_; have HO430 := n3_; have HO434 := n4_; have BK414 := n5_; have BK415 := n6_; have HB := n7_; clear n0_ n1_ n2_ n3_ n4_ n5_ n6_ n7_; clear hb ho93; obtain ⟨Ao94, co94, eo94⟩ := Kd.N_slice HO434.out; subst eo94) | ((with_reducible refine gate_callee (f := 35) rfl ?_); refine goesL_ (some 63) rfl rfl Try.func35 (by kernel_rfl) rfl #[.agg #[.int .i64 8, .int .i64 0, .slice Ao94 y432.length co94], .string a2] rfl (by (try simp only [List.map_toArray, List.map_cons, List.map_nil]); first | done | rfl | (simp only [List.length_drop, List.length_take]; rfl) | (simp only [Int.ofNat_lt, Int.ofNat_le]; rfl)) ?_; (with_reducible refine (expr_Match.calls kj3 8 0 _ _ y432 a2 t435 _ ?side1 ?side2 A45.out).mono ?_); (case side1 => repeat (first | exact (Kd.N_reads' HO434.out).2.2 | (with_reducible refine Kd.C_alloc ?_ _) | (with_reducible refine Kd.C_drewN ?_ _) | (with_reducible refine Kd.C_drew ?_))); (case side2 => exact (Kd.N_reads' HO434.out).2.1); rintro e w95 ⟨rfl, hb⟩; refine ⟨_, rfl, ?_⟩; have n0_ := Aside0.mk (Kd.V_below (by (with_reducible repeat (first | apply Kd.V_alloc | apply Kd.V_drewN | apply Kd.V_drew)); exact HO_415002.out) hb); have n1_ := Aside0.mk (Kd.V_below (by (with_reducible repeat (first | apply Kd.V_alloc | apply Kd.V_drewN | apply Kd.V_drew)); exact HO_416002.out) hb); have n2_ := Aside0.mk (Kd.N_below (by (with_reducible repeat (first | apply Kd.N_alloc | apply Kd.N_drewN | apply Kd.N_drew)); exact HO426.out) hb); have n3_ := Aside0.mk (Kd.N_below (by (with_reducible repeat (first | apply Kd.N_alloc | apply Kd.N_drewN | apply Kd.N_drew)); exact HO430.out) hb); have n4_ := Aside0.mk (Kd.N_below (by (with_reducible repeat (first | apply Kd.N_alloc | apply Kd.N_drewN | apply Kd.N_drew)); exact HO434.out) hb); have n5_ := Aside0.mk (blk_below (g := gb414) (o := .cells #[.int .i64 a0_0, .int .i64 a0_1, .slice A0_2 l0_2.length c0_2] 24 (0, 0)) (bK) hb); have n6_ := Aside0.mk (blk_below (g := gb415) (o := .cells #[.int .i64 a1_0, .int .i64 a1_1, .slice A1_2 l1_2.length c1_2] 24 (0, 0)) (bK) hb); have n7_ := Aside0.mk (below_step (bB) hb); clear HO_415002; clear HO_416002; clear HO426; clear HO430; clear HO434; clear BK414; clear BK415; clear HB; have HO_415002 := n0_; have HO_416002 := n1_; have HO426 := n2_; have HO430 := n3_; have HO434 := n4_; have BK414 := n5_; have BK415 := n6_; have HB := n7_; clear n0_ n1_ n2_ n3_ n4_ n5_ n6_ n7_; (try clear hb); (try clear hb2); (try clear hk); (try clear hi); refine Go.Proofs.YtjofkebiacaciaaW.PrintWords.FootX.wall_ ?_))
     refine ⟨?_⟩
     (try simp only [Act.put, List.setIfInBounds_toArray, List.set_cons_zero, List.set_cons_succ])
     have H := HC74.out
     clear HC74
     try clear c3
     try clear c38
     try clear c46
     try clear c69
     try clear hcz52_0
     try clear hcz52_1
     try clear hcz52_2
     try clear hcz53_0
     try clear hcz53_1
     try clear hcz53_2
     try clear hcz58_0
     try clear hcz58_1
     try clear hcz58_2
     try clear hcz59_0
     try clear hcz59_1
     try clear hcz59_2
     try clear hcz64_0
     try clear hcz64_1
     try clear hcz64_2
     try clear hcz79_0
     try clear hcz79_1
     try clear hcz79_2
     try clear hcz80_0
     try clear hcz80_1
     try clear hcz80_2
     try clear hcz85_0
     try clear hcz85_1
     try clear hcz85_2
     try clear hcz86_0
     try clear hcz86_1
     try clear hcz86_2
     try clear hcz91_0
     try clear hcz91_1
     try clear hcz91_2
     try clear hfz52_0
     try clear hfz52_1
     try clear hfz52_2
     try clear hfz53_0
     try clear hfz53_1
     try clear hfz53_2
     try clear hfz58_0
     try clear hfz58_1
     try clear hfz58_2
     try clear hfz59_0
     try clear hfz59_1
     try clear hfz59_2
     try clear hfz64_0
     try clear hfz64_1
     try clear hfz64_2
     try clear hfz79_0
     try clear hfz79_1
     try clear hfz79_2
     try clear hfz80_0
     try clear hfz80_1
     try clear hfz80_2
     try clear hfz85_0
     try clear hfz85_1
     try clear hfz85_2
     try clear hfz86_0
     try clear hfz86_1
     try clear hfz86_2
     try clear hfz91_0
     try clear hfz91_1
     try clear hfz91_2
     by_cases c96 : (t427 == t423) = true
     ·rw [if_pos c96] at H
      have c96b0 : (t427 == t423) = true := c96
      (try (have c96b1 : decide (t427 = t423) = true := by simpa using c96))
      (try (have c96b2 : (t427 == t423) = true := by simpa using c96))
      clear c96
      (first | rw [c96b0] | (simp only [i64_w, i32_w]; rw [c96b0]) | skip)
      by_cases c97 : (t431 == false) = true
      ·rw [if_pos c97] at H
       have c97b0 : (t431 == false) = true := c97
       (try (have c97b1 : decide (t431 = false) = true := by simpa using c97))
       (try (have c97b2 : (t431 == false) = true := by simpa using c97))
       (try (have c97b3 : t431 = false := by simpa using c97))
       clear c97
       by_cases c98 : (t435 == (!false)) = true
       ·rw [if_pos c98] at H
        have c98b0 : (t435 == (!false)) = true := c98
        (try (have c98b1 : decide (t435 = (!false)) = true := by simpa using c98))
        (try (have c98b2 : (t435 == (!false)) = true := by simpa using c98))
        (try (have c98b3 : t435 = true := by simpa using c98))
        clear c98
        replace H := Option.bind_eq_some_iff.mp H
        obtain ⟨t437, A990, H⟩ := H
        replace H : (some t437) = some r := H
        have A99 := Aside0.mk A990
        clear A990
        obtain rfl := Option.some.inj H
        go_wp2_with (first | (go_at_call 17; (with_reducible refine (semigrouplaw04_awake.calls kj3  t437 _ A99.out).mono ?_); rintro e w100 ⟨rfl, hb⟩; have n0_ := Aside0.mk (Kd.V_below (by (with_reducible repeat (first | apply Kd.V_alloc | apply Kd.V_drewN | apply Kd.V_drew)); exact HO_415002.out) hb); have n1_ := Aside0.mk (Kd.V_below (by (with_reducible repeat (first | apply Kd.V_alloc | apply Kd.V_drewN | apply Kd.V_drew)); exact HO_416002.out) hb); have n2_ := Aside0.mk (Kd.N_below (by (with_reducible repeat (first | apply Kd.N_alloc | apply Kd.N_drewN | apply Kd.N_drew)); exact HO426.out) hb); have n3_ := Aside0.mk (Kd.N_below (by (with_reducible repeat (first | apply Kd.N_alloc | apply Kd.N_drewN | apply Kd.N_drew)); exact HO430.out) hb); have n4_ := Aside0.mk (Kd.N_below (by (with_reducible repeat (first | apply Kd.N_alloc | apply Kd.N_drewN | apply Kd.N_drew)); exact HO434.out) hb); have n5_ := Aside0.mk (blk_below (g := gb414) (o := .cells #[.int .i64 a0_0, .int .i64 a0_1, .slice A0_2 l0_2.length c0_2] 24 (0, 0)) (bK) hb); have n6_ := Aside0.mk (blk_below (g := gb415) (o := .cells #[.int .i64 a1_0, .int .i64 a1_1, .slice A1_2 l1_2.length c1_2] 24 (0, 0)) (bK) hb); have n7_ := Aside0.mk (below_step (bB) hb); clear HO_415002; clear HO_416002; clear HO426; clear HO430; clear HO434; clear BK414; clear BK415; clear HB; have HO_415002 := n0_; have HO_416002 := n1_; have HO426 := n2_; have HO430 := n3_; have HO434 := n4_; have BK414 := n5_; have BK415 := n6_; have HB := n7_; clear n0_ n1_ n2_ n3_ n4_ n5_ n6_ n7_; (try clear hb); (try clear hb2); (try clear hk); (try clear hi)))
        go_ret
        exact ⟨by first | rfl | (simp [errW_none, errW_some] <;> rfl) | (simp [*, errW_none, errW_some] <;> rfl), bB⟩
       ·rw [if_neg c98] at H
        have c98b0 : (t435 == (!false)) = false := by simpa using c98
        (try (have c98b1 : decide (t435 = (!false)) = false := by simpa using c98))
        (try (have c98b2 : (t435 == (!false)) = false := by simpa using c98))
        (try (have c98b3 : ¬ (t435 = (!false)) := by simpa using c98))
        (try (have c98b4 : t435 = false := by simpa using c98))
        clear c98
        obtain rfl := Option.some.inj H
        go_wp2
        go_ret
        exact ⟨by first | rfl | (simp [errW_none, errW_some] <;> rfl) | (simp [*, errW_none, errW_some] <;> rfl), bB⟩
      ·rw [if_neg c97] at H
       have c97b0 : (t431 == false) = false := by simpa using c97
       (try (have c97b1 : decide (t431 = false) = false := by simpa using c97))
       (try (have c97b2 : (t431 == false) = false := by simpa using c97))
       (try (have c97b3 : ¬ (t431 = false) := by simpa using c97))
       (try (have c97b4 : t431 = true := by simpa using c97))
       clear c97
       obtain rfl := Option.some.inj H
       go_wp2
       go_ret
       exact ⟨by first | rfl | (simp [errW_none, errW_some] <;> rfl) | (simp [*, errW_none, errW_some] <;> rfl), bB⟩
     ·rw [if_neg c96] at H
      have c96b0 : (t427 == t423) = false := by simpa using c96
      (try (have c96b1 : decide (t427 = t423) = false := by simpa using c96))
      (try (have c96b2 : (t427 == t423) = false := by simpa using c96))
      (try (have c96b3 : ¬ (t427 = t423) := by simpa using c96))
      clear c96
      (first | rw [c96b0] | (simp only [i64_w, i32_w]; rw [c96b0]) | skip)
      obtain rfl := Option.some.inj H
      go_wp2
      go_ret
      exact ⟨by first | rfl | (simp [errW_none, errW_some] <;> rfl) | (simp [*, errW_none, errW_some] <;> rfl), bB⟩
end Go.Proofs.Ytjofkebiacaciaa.PAll
end
section
namespace Go.Proofs.Ytjofkebiacaciaa.T04
open Go Go.RowKit Go.Proofs.Ytjofkebiacaciaa.PAll Go.Proofs.YtjofkebiacaciaaW.PrintWords Go.Proofs.YtjofkebiacaciaaW.PrintLast Go.Proofs.YtjofkebiacaciaaW.PrintMore Go.Proofs.Ytjofkebiacaciaa.AllRead24
set_option linter.all false
def opKids (o : Int) (n : Nat) : Bool :=
 if o = 1 ∨ o = 2 ∨ o = 3 then decide (n = 0) else if o = 7 ∨ o = 8 then decide (n = 1) else if o = 4 ∨ o = 5 ∨ o = 6 then decide (2 ≤ n) else false
def letOK (o a L : Int) : Bool := if o = 3 then decide (0 ≤ a ∧ a < L) else decide (a = 0)
mutual
def shp (L : Int) : S24 → Bool
 | ⟨o, a, l⟩ => opKids o l.length && (letOK o a L && shps L l)
def shps (L : Int) : List S24 → Bool
 | [] => true
 | x :: r => shp L x && shps L r
end
theorem shp_mk (L : Int) (e : S24) : shp L e = (opKids e.f0 e.f2.length && (letOK e.f0 e.f1 L && shps L e.f2)) := by cases e; rw [shp]
theorem shps_mem {L : Int} {l : List S24} (h : shps L l = true) {x : S24} (hx : x ∈ l) : shp L x = true := by
 induction l with
 | nil => cases hx
 | cons y r ih =>
  simp [shps] at h
  rcases List.mem_cons.mp hx with rfl | hx
  ·exact h.1
  ·exact ih h.2 hx
theorem Ev.if {α : Type} {c : Prop} [Decidable c] {a b : Nat → Option α} {x y : α} (h1 : c → Ev a x) (h2 : ¬ c → Ev b y) : Ev (fun k => if c then a k else b k) (if c then x else y) := by
 by_cases h : c
 ·simp only [if_pos h]; exact h1 h
 ·simp only [if_neg h]; exact h2 h
theorem Ev.to {α : Type} {g : Nat → Option α} {x y : α} (h : Ev g x) (e : x = y) : Ev g y := e ▸ h
theorem shaped_prog (L : Int) (e : S24) : WF e → size e ≤ 400 → Ev (fun k => expr_shaped.f k e.f0 e.f1 e.f2 L) (shp L e) := by
 induction e using ind with
 | h e ih =>
 intro hw hs
 have hs' : sizes e.f2 ≤ 399 := by rw [size_mk] at hs; omega
 have hlen : e.f2.length ≤ 399 := Nat.le_trans (length_le_sizes _) hs'
 have loop : ∀ (r pre : List S24), e.f2 = pre ++ r → Ev (fun k => expr_shaped.l0 k L e.f2 (e.f2.length : Int) (pre.length : Int)) (shps L r) := by
  intro r
  induction r with
  | nil =>
   intro pre hp
   exact Ev.step (fun k => by simp only [expr_shaped.l0]; rw [hp, if_neg (not_lt_end pre)]; rfl) (Ev.now _)
  | cons x r ihr =>
   intro pre hp
   have hx : x ∈ e.f2 := by rw [hp]; simp
   have h1 := ih x hx (hw.kid hx) (by have := sizes_mem hx; omega)
   refine Ev.step (f := fun k => (expr_shaped.f k x.f0 x.f1 x.f2 L).bind fun t => (if t = true then (expr_shaped.l0 k L e.f2 (e.f2.length : Int) ((pre ++ [x]).length : Int)) else some false)) (fun k => ?_) (Ev.bind h1 ?_)
   ·simp only [expr_shaped.l0]
    rw [← next_mid (r := r) (x := x) (by rw [← hp]; exact hw.len), hp, if_pos (lt_mid pre x r), if_pos (ge0 _), if_pos (lt_mid pre x r), rd_mid]
   ·refine Ev.to (Ev.if (fun _ => ihr (pre ++ [x]) (by rw [hp]; exact shift_mid pre x r)) (fun _ => Ev.now false)) ?_
    simp [shps]
    try (cases shp L x <;> simp)
 have l0 := loop e.f2 [] rfl
 have j4 : ∀ b, Ev (fun k => expr_shaped.j4 k L b e.f0 e.f1 e.f2) (!b && shps L e.f2) := fun b =>
  Ev.step (f := fun k => if b = true then some false else expr_shaped.l0 k L e.f2 (e.f2.length : Int) 0) (fun k => by simp only [expr_shaped.j4]) (Ev.to (Ev.if (fun _ => Ev.now false) (fun _ => l0)) (by cases b <;> simp))
 have j3 : ∀ b, Ev (fun k => expr_shaped.j3 k L b e.f0 e.f1 e.f2) (!b && (letOK e.f0 e.f1 L && shps L e.f2)) := fun b =>
  Ev.step (fun k => by simp only [expr_shaped.j3]; rfl) (Ev.to (Ev.if (fun _ => Ev.now false) (fun _ => Ev.if (fun _ => Ev.if (fun _ => j4 _) (fun _ => Ev.if (fun _ => j4 _) (fun _ => j4 _))) (fun _ => j4 _))) (by
   unfold letOK
   cases b with
   | true => simp
   | false =>
    by_cases h3 : e.f0 = 3
    ·by_cases h4 : e.f1 < 0
     ·simp [h3, h4]; omega
     ·by_cases h5 : e.f1 ≥ L
      ·simp [h3, h4, h5]; omega
      ·simp [h3, h4, h5]; omega
    ·simp [h3]; by_cases h0 : e.f1 = 0 <;> simp [h0]))
 let J2 (least most : Nat) : Bool := decide (least ≤ e.f2.length ∧ e.f2.length ≤ most) && (letOK e.f0 e.f1 L && shps L e.f2)
 have j2 : ∀ least most : Nat, Ev (fun k => expr_shaped.j2 k L least most e.f0 e.f1 e.f2) (J2 least most) := fun least most =>
  Ev.step (fun k => by simp only [expr_shaped.j2]; rfl) (Ev.to (Ev.if (fun _ => j3 _) (fun _ => j3 _)) (by
   show _ = (decide (least ≤ e.f2.length ∧ e.f2.length ≤ most) && (letOK e.f0 e.f1 L && shps L e.f2))
   by_cases h : (e.f2.length : Int) < least
   ·have : ¬ (least ≤ e.f2.length ∧ e.f2.length ≤ most) := by omega
    simp only [if_pos h, decide_eq_false this]; simp
   ·by_cases h2 : (e.f2.length : Int) > most
    ·have : ¬ (least ≤ e.f2.length ∧ e.f2.length ≤ most) := by omega
     simp only [if_neg h, decide_eq_true h2, decide_eq_false this]; simp
    ·have : (least ≤ e.f2.length ∧ e.f2.length ≤ most) := by omega
     simp only [if_neg h, decide_eq_false h2, decide_eq_true this]; simp))
 have j1 : ∀ b, Ev (fun k => expr_shaped.j1 k L e.f0 b e.f0 e.f1 e.f2) (if b = true then J2 2 400 else if e.f0 = 7 then J2 1 1 else if e.f0 = 8 then J2 1 1 else false) := fun b =>
  Ev.step (fun k => by simp only [expr_shaped.j1]; rfl) (Ev.if (fun _ => j2 2 400) (fun _ => Ev.if (fun _ => j2 1 1) (fun _ => Ev.if (fun _ => j2 1 1) (fun _ => Ev.now false))))
 have j0 : ∀ b, Ev (fun k => expr_shaped.j0 k L 0 0 e.f0 b e.f0 e.f1 e.f2) (if b = true then J2 0 0 else if e.f0 = 4 ∨ e.f0 = 5 ∨ e.f0 = 6 then J2 2 400 else if e.f0 = 7 ∨ e.f0 = 8 then J2 1 1 else false) := fun b =>
  Ev.step (fun k => by simp only [expr_shaped.j0]; rfl) (Ev.to (Ev.if (fun _ => j2 0 0) (fun _ => Ev.if (fun _ => j1 _) (fun _ => Ev.if (fun _ => j1 _) (fun _ => j1 _)))) (by
   cases b with
   | true => simp
   | false =>
    by_cases h4 : e.f0 = 4
    ·simp [h4]
    ·by_cases h5 : e.f0 = 5
     ·simp [h5]
     ·by_cases h6 : e.f0 = 6
      ·simp [h6]
      ·by_cases h7 : e.f0 = 7
       ·simp [h7]
       ·by_cases h8 : e.f0 = 8
        ·simp [h8]
        ·simp [h4, h5, h6, h7, h8]))
 have a0 : J2 0 0 = (decide (e.f2.length = 0) && (letOK e.f0 e.f1 L && shps L e.f2)) := by
  show (decide (0 ≤ e.f2.length ∧ e.f2.length ≤ 0) && _) = _
  rw [show decide (0 ≤ e.f2.length ∧ e.f2.length ≤ 0) = decide (e.f2.length = 0) from by rw [decide_eq_decide]; omega]
 have a1 : J2 1 1 = (decide (e.f2.length = 1) && (letOK e.f0 e.f1 L && shps L e.f2)) := by
  show (decide (1 ≤ e.f2.length ∧ e.f2.length ≤ 1) && _) = _
  rw [show decide (1 ≤ e.f2.length ∧ e.f2.length ≤ 1) = decide (e.f2.length = 1) from by rw [decide_eq_decide]; omega]
 have a2 : J2 2 400 = (decide (2 ≤ e.f2.length) && (letOK e.f0 e.f1 L && shps L e.f2)) := by
  show (decide (2 ≤ e.f2.length ∧ e.f2.length ≤ 400) && _) = _
  rw [show decide (2 ≤ e.f2.length ∧ e.f2.length ≤ 400) = decide (2 ≤ e.f2.length) from by rw [decide_eq_decide]; omega]
 refine Ev.step (fun k => by simp only [expr_shaped.f]; rfl) (Ev.to (Ev.if (fun _ => j0 _) (fun _ => Ev.if (fun _ => j0 _) (fun _ => j0 _))) ?_)
 rw [a0, a1, a2, shp_mk]
 unfold opKids
 generalize (letOK e.f0 e.f1 L && shps L e.f2) = z
 by_cases h1 : e.f0 = 1
 ·simp [h1]
 ·by_cases h2 : e.f0 = 2
  ·simp [h2]
  ·by_cases h3 : e.f0 = 3
   ·simp [h3]
   ·by_cases h4 : e.f0 = 4
    ·simp [h4]
    ·by_cases h5 : e.f0 = 5
     ·simp [h5]
     ·by_cases h6 : e.f0 = 6
      ·simp [h6]
      ·by_cases h7 : e.f0 = 7
       ·simp [h7]
       ·by_cases h8 : e.f0 = 8
        ·simp [h8]
        ·simp [h1, h2, h3, h4, h5, h6, h7, h8]
theorem shaped_ref (L : Int) (e : S24) : WF e → Ev (fun k => semigroupref04_shaped.f k e.f0 e.f1 e.f2 L) (shp L e) := by
 induction e using ind with
 | h e ih =>
 intro hw
 have loop : ∀ (r pre : List S24), e.f2 = pre ++ r → ∀ b, Ev (fun k => semigroupref04_shaped.l0 k L (e.f2.length : Int) b (pre.length : Int) e.f0 e.f1 e.f2) (b && shps L r) := by
  intro r
  induction r with
  | nil =>
   intro pre hp b
   exact Ev.to (Ev.step (f := fun _ => some b) (fun k => by simp only [semigroupref04_shaped.l0]; rw [hp, if_neg (not_lt_end pre)]) (Ev.now _)) (by simp [shps])
  | cons x r ihr =>
   intro pre hp b
   have hx : x ∈ e.f2 := by rw [hp]; simp
   have h1 := ih x hx (hw.kid hx)
   cases b with
   | false => exact Ev.to (Ev.step (f := fun _ => some false) (fun k => by simp only [semigroupref04_shaped.l0]; rw [hp, if_pos (lt_mid pre x r), if_neg (by decide)]) (Ev.now _)) (by simp)
   | true =>
    refine Ev.to (Ev.step (f := fun k => (semigroupref04_shaped.f k x.f0 x.f1 x.f2 L).bind fun t => semigroupref04_shaped.l0 k L (e.f2.length : Int) t ((pre ++ [x]).length : Int) e.f0 e.f1 e.f2) (fun k => ?_) (Ev.bind h1 (ihr (pre ++ [x]) (by rw [hp]; exact shift_mid pre x r) _))) (by simp [shps])
    simp only [semigroupref04_shaped.l0]
    rw [← next_mid (r := r) (x := x) (by rw [← hp]; exact hw.len), hp, if_pos (lt_mid pre x r), if_pos trivial, if_pos (ge0 _), if_pos (lt_mid pre x r), rd_mid]
 have l0 := loop e.f2 [] rfl
 have j3 : ∀ b, Ev (fun k => semigroupref04_shaped.j3 k L (e.f2.length : Int) b e.f0 e.f1 e.f2) (b && shps L e.f2) := fun b =>
  Ev.step (fun k => by simp only [semigroupref04_shaped.j3]; rfl) (l0 b)
 have j2 : ∀ b, Ev (fun k => semigroupref04_shaped.j2 k L (e.f2.length : Int) b e.f0 e.f1 e.f2) (b && (letOK e.f0 e.f1 L && shps L e.f2)) := fun b =>
  Ev.step (fun k => by simp only [semigroupref04_shaped.j2]; rfl) (Ev.to (Ev.if (fun _ => Ev.if (fun _ => Ev.if (fun _ => j3 _) (fun _ => j3 _)) (fun _ => j3 _)) (fun _ => Ev.if (fun _ => j3 _) (fun _ => j3 _))) (by
   unfold letOK
   generalize shps L e.f2 = z
   cases b with
   | false => by_cases h3 : e.f0 = 3 <;> simp [h3]
   | true =>
    by_cases h3 : e.f0 = 3
    ·by_cases h4 : e.f1 ≥ 0
     ·simp [h3, h4]
     ·simp [h3, h4] <;> (try (intros; omega))
    ·simp [h3]; by_cases h0 : e.f1 = 0 <;> simp [h0]))
 let z := (letOK e.f0 e.f1 L && shps L e.f2)
 have j1 : ∀ b c, Ev (fun k => semigroupref04_shaped.j1 k L (e.f2.length : Int) b e.f0 c e.f0 e.f1 e.f2) ((if c = true then decide (e.f2.length = 0) else if e.f0 = 7 ∨ e.f0 = 8 then decide (e.f2.length = 1) else (b && decide (2 ≤ e.f2.length))) && z) := fun b c =>
  Ev.step (fun k => by simp only [semigroupref04_shaped.j1]; rfl) (Ev.to (Ev.if (fun _ => j2 _) (fun _ => Ev.if (fun _ => j2 _) (fun _ => Ev.if (fun _ => j2 _) (fun _ => Ev.if (fun _ => j2 _) (fun _ => j2 _))))) (by
   have e0 : ((e.f2.length : Int) == 0) = decide (e.f2.length = 0) := by rw [Bool.eq_iff_iff]; simp; try omega
   have e1 : ((e.f2.length : Int) == 1) = decide (e.f2.length = 1) := by rw [Bool.eq_iff_iff]; simp; try omega
   have e2 : decide ((e.f2.length : Int) ≥ 2) = decide (2 ≤ e.f2.length) := by rw [decide_eq_decide]; omega
   rw [e0, e1, e2]
   show _ = (_ && (letOK e.f0 e.f1 L && shps L e.f2))
   generalize (letOK e.f0 e.f1 L && shps L e.f2) = z
   cases c with
   | true => simp
   | false =>
    by_cases h7 : e.f0 = 7
    ·simp [h7]
    ·by_cases h8 : e.f0 = 8
     ·simp [h8]
     ·cases b <;> simp [h7, h8]))
 have j0 : ∀ b, Ev (fun k => semigroupref04_shaped.j0 k L (e.f2.length : Int) b e.f0 e.f1 e.f2) ((if e.f0 = 1 ∨ e.f0 = 2 ∨ e.f0 = 3 then decide (e.f2.length = 0) else if e.f0 = 7 ∨ e.f0 = 8 then decide (e.f2.length = 1) else (b && decide (2 ≤ e.f2.length))) && z) := fun b =>
  Ev.step (fun k => by simp only [semigroupref04_shaped.j0]; rfl) (Ev.to (Ev.if (fun _ => j1 _ _) (fun _ => Ev.if (fun _ => j1 _ _) (fun _ => j1 _ _))) (by
   by_cases h1 : e.f0 = 1
   ·simp [h1]
   ·by_cases h2 : e.f0 = 2
    ·simp [h2]
    ·by_cases h3 : e.f0 = 3
     ·simp [h3]
     ·simp [h1, h2, h3]))
 refine Ev.step (fun k => by simp only [semigroupref04_shaped.f]; rfl) (Ev.to (Ev.if (fun _ => j0 _) (fun _ => j0 _)) ?_)
 rw [shp_mk]
 unfold opKids
 show _ = (_ && z)
 generalize z = z
 by_cases h1 : e.f0 = 1
 ·simp [h1]
 ·by_cases h2 : e.f0 = 2
  ·simp [h2]
  ·by_cases h3 : e.f0 = 3
   ·simp [h3]
   ·by_cases h4 : e.f0 = 4
    ·simp [h4]
    ·by_cases h5 : e.f0 = 5
     ·simp [h5]
     ·by_cases h6 : e.f0 = 6
      ·simp [h6]
      ·by_cases h7 : e.f0 = 7
       ·simp [h7]
       ·by_cases h8 : e.f0 = 8
        ·simp [h8]
        ·simp [h1, h2, h3, h4, h5, h6, h7, h8]
         intro a b; omega
def validate (L : Int) (e : S24) : Int := if L < 1 ∨ 6 < L then 1 else if ¬ WithinP e then 3 else if shp L e = false then 4 else 0
theorem validate_prog (e : S24) (hw : WF e) (L : Int) : Ev (fun k => expr_Validate.f k e.f0 e.f1 e.f2 L) (validate L e) := by
 have j0 : ∀ b, Ev (fun k => expr_Validate.j0 k L b e.f0 e.f1 e.f2) (if b = true then 1 else if ¬ WithinP e then 3 else if shp L e = false then 4 else 0) := fun b =>
  Ev.step (fun k => by simp only [expr_Validate.j0]; rfl) (Ev.if (fun _ => Ev.now _) (fun _ => Ev.bind (within_prog e hw) (by
   by_cases h : WithinP e
   ·simp only [decide_eq_true h, h, if_true, not_true, if_false]
    refine Ev.bind (shaped_prog L e hw h.1) ?_
    cases shp L e
    ·simp; exact Ev.now _
    ·simp; exact Ev.now _
   ·simp only [decide_eq_false h, h]
    simp; exact Ev.now _)))
 refine Ev.congr (f := fun k => if L < 1 then expr_Validate.j0 k L true e.f0 e.f1 e.f2 else expr_Validate.j0 k L (decide (L > 6)) e.f0 e.f1 e.f2) (fun k => by simp only [expr_Validate.f]) (Ev.to (Ev.if (fun _ => j0 _) (fun _ => j0 _)) ?_)
 unfold validate
 by_cases h1 : L < 1
 ·simp [h1]
 ·by_cases h2 : L > 6
  ·simp [h1, h2]
  ·simp [h1, h2]
theorem validate_ref (e : S24) (hw : WF e) (L : Int) : Ev (fun k => semigroupref04_Validate.f k e.f0 e.f1 e.f2 L) (validate L e) := by
 have hm : semigroupref01_MayLetters.f L = some (decide (1 ≤ L ∧ L ≤ 6)) := by
  unfold semigroupref01_MayLetters.f
  by_cases h : L ≥ 1
  ·rw [if_pos h]; congr 1; rw [decide_eq_decide]; omega
  ·rw [if_neg h]; congr 1; rw [eq_comm, decide_eq_false_iff_not]; omega
 refine Ev.congr (fun k => by simp only [semigroupref04_Validate.f, hm]; rfl) ?_
 unfold validate
 by_cases h1 : 1 ≤ L ∧ L ≤ 6
 ·have h2 : ¬ (L < 1 ∨ 6 < L) := by omega
  simp only [decide_eq_true h1, Option.bind_some, if_true, if_neg h2]
  refine Ev.bind (within_ref e hw) ?_
  by_cases h : WithinP e
  ·simp only [decide_eq_true h, h, if_true, not_true, if_false]
   refine Ev.bind (shaped_ref L e hw) ?_
   cases shp L e
   ·simp; exact Ev.now _
   ·simp; exact Ev.now _
  ·simp only [decide_eq_false h, h]
   simp; exact Ev.now _
 ·have h2 : (L < 1 ∨ 6 < L) := by omega
  simp only [decide_eq_false h1, Option.bind_some, if_pos h2]
  simp; exact Ev.now _
def Vld (e : S24) : Prop := WithinP e ∧ shp 6 e = true
instance (e : S24) : Decidable (Vld e) := by unfold Vld; infer_instance
theorem validate_vld (e : S24) : (validate 6 e == 0) = decide (Vld e) := by
 unfold validate Vld
 by_cases h : WithinP e
 ·by_cases hs : shp 6 e = true
  ·simp [h, hs]
  ·simp [h, hs]
 ·simp [h]
theorem valid_prog (e : S24) (hw : WF e) : Ev (fun k => expr_valid.f k e.f0 e.f1 e.f2) (decide (Vld e)) :=
 Ev.congr (f := fun k => (expr_Validate.f k e.f0 e.f1 e.f2 6).bind fun t => some (t == 0)) (fun k => by simp only [expr_valid.f]) (Ev.bind (f := fun k t => some (t == 0)) (validate_prog e hw 6) (Ev.to (Ev.now _) (validate_vld e)))
theorem valid_ref (e : S24) (hw : WF e) : Ev (fun k => semigroupref04_Valid.f k e.f0 e.f1 e.f2) (decide (Vld e)) :=
 Ev.congr (f := fun k => (semigroupref04_Validate.f k e.f0 e.f1 e.f2 6).bind fun t => some (t == 0)) (fun k => by simp only [semigroupref04_Valid.f]) (Ev.bind (f := fun k t => some (t == 0)) (validate_ref e hw 6) (Ev.to (Ev.now _) (validate_vld e)))
end Go.Proofs.Ytjofkebiacaciaa.T04
end
section
namespace Go.Proofs.Ytjofkebiacaciaa.Bit64
set_option linter.all false
open Go Go.Proofs.YtjofkebiacaciaaW.PrintWords
def U (x : Int) : Prop := 0 ≤ x ∧ x < 18446744073709551616
def tb (x : Int) (j : Nat) : Bool := x.toNat.testBit j
theorem U.nat {x : Int} (h : U x) : ∃ a : Nat, x = a ∧ a < 18446744073709551616 := ⟨x.toNat, by have := h.1; omega, by have := h.2; have := h.1; omega⟩
theorem U_nat {a : Nat} (h : a < 18446744073709551616) : U (a : Int) := ⟨by omega, by omega⟩
theorem U_zero : U 0 := ⟨by omega, by omega⟩
@[simp] theorem tb_nat (a j : Nat) : tb (a : Int) j = a.testBit j := rfl
@[simp] theorem tb_zero (j : Nat) : tb 0 j = false := by unfold tb; simp
theorem or_nat {a b : Nat} (ha : a < 18446744073709551616) (hb : b < 18446744073709551616) : a ||| b < 18446744073709551616 := Nat.or_lt_two_pow (n := 64) ha hb
theorem and_nat {a b : Nat} (hb : b < 18446744073709551616) : a &&& b < 18446744073709551616 := Nat.and_lt_two_pow (n := 64) _ hb
theorem U_or {x y : Int} (hx : U x) (hy : U y) : U (Go.bits .or .u64 x y) := by
 obtain ⟨a, rfl, ha⟩ := hx.nat
 obtain ⟨b, rfl, hb⟩ := hy.nat
 rw [bits_or_u64_nat a b ha hb]; exact U_nat (or_nat ha hb)
theorem tb_or {x y : Int} (hx : U x) (hy : U y) (j : Nat) : tb (Go.bits .or .u64 x y) j = (tb x j || tb y j) := by
 obtain ⟨a, rfl, ha⟩ := hx.nat
 obtain ⟨b, rfl, hb⟩ := hy.nat
 rw [bits_or_u64_nat a b ha hb]; simp
theorem U_and {x y : Int} (hx : U x) (hy : U y) : U (Go.bits .and .u64 x y) := by
 obtain ⟨a, rfl, ha⟩ := hx.nat
 obtain ⟨b, rfl, hb⟩ := hy.nat
 rw [bits_and_u64_nat a b ha hb]; exact U_nat (and_nat hb)
theorem tb_and {x y : Int} (hx : U x) (hy : U y) (j : Nat) : tb (Go.bits .and .u64 x y) j = (tb x j && tb y j) := by
 obtain ⟨a, rfl, ha⟩ := hx.nat
 obtain ⟨b, rfl, hb⟩ := hy.nat
 rw [bits_and_u64_nat a b ha hb]; simp
theorem wrap_idx {i : Int} (h0 : 0 ≤ i) (h : i < 18446744073709551616) : IntKind.u64.wrap i = i := by
 rw [IntKind.wrap_u64]; omega
theorem shl_one {n : Nat} (h : n < 64) : shl .u64 1 (n : Int) = ((2 ^ n : Nat) : Int) := by
 unfold shl
 have hp : 2 ^ n < 2 ^ 64 := Nat.pow_lt_pow_right (by decide) h
 have e : min ((n : Int).toNat) IntKind.u64.bits = n := by simp [IntKind.bits]; omega
 rw [e, IntKind.wrap_u64, Int.one_mul]
 have e2 : (2 : Int) ^ n = ((2 ^ n : Nat) : Int) := by simp
 rw [e2]
 exact Int.emod_eq_of_lt (Int.natCast_nonneg _) (Int.ofNat_lt.mpr hp)
theorem U_shl {n : Int} (h0 : 0 ≤ n) (h : n < 64) : U (shl .u64 1 n) := by
 obtain ⟨m, rfl⟩ : ∃ m : Nat, n = m := ⟨n.toNat, by omega⟩
 rw [shl_one (by omega)]
 exact U_nat (Nat.pow_lt_pow_right (n := 64) (by decide) (by omega))
theorem tb_shl {n : Int} (h0 : 0 ≤ n) (h : n < 64) (j : Nat) : tb (shl .u64 1 n) j = decide (j = n.toNat) := by
 obtain ⟨m, rfl⟩ : ∃ m : Nat, n = m := ⟨n.toNat, by omega⟩
 rw [shl_one (by omega), tb_nat, Nat.testBit_two_pow]
 simp [eq_comm]
theorem shr_nat (a : Nat) {n : Nat} (h : n < 64) : shr .u64 (a : Int) (n : Int) = ((a / 2 ^ n : Nat) : Int) := by
 unfold shr
 have e : min ((n : Int).toNat) IntKind.u64.bits = n := by simp [IntKind.bits]; omega
 rw [e]
 simp
theorem U_shr {x n : Int} (hx : U x) (h0 : 0 ≤ n) (h : n < 64) : U (shr .u64 x n) := by
 obtain ⟨m, rfl⟩ : ∃ m : Nat, n = m := ⟨n.toNat, by omega⟩
 obtain ⟨a, rfl, ha⟩ := hx.nat
 rw [shr_nat a (by omega)]
 exact U_nat (Nat.lt_of_le_of_lt (Nat.div_le_self _ _) ha)
theorem tb_shr {x n : Int} (hx : U x) (h0 : 0 ≤ n) (h : n < 64) (j : Nat) : tb (shr .u64 x n) j = tb x (j + n.toNat) := by
 obtain ⟨m, rfl⟩ : ∃ m : Nat, n = m := ⟨n.toNat, by omega⟩
 obtain ⟨a, rfl, ha⟩ := hx.nat
 rw [shr_nat a (by omega), tb_nat, tb_nat, Nat.testBit_div_two_pow, Int.toNat_natCast]
theorem and_one {x : Int} (hx : U x) : Go.bits .and .u64 x 1 = if tb x 0 = true then 1 else 0 := by
 obtain ⟨a, rfl, ha⟩ := hx.nat
 have := bits_and_u64_nat a 1 ha (by omega)
 rw [show ((1 : Nat) : Int) = 1 from rfl] at this
 rw [this, Nat.and_one_is_mod, tb_nat, Nat.testBit_zero]
 by_cases h : a % 2 = 1
 ·simp [h]
 ·have h0 : a % 2 = 0 := by omega
  simp [h0]
theorem bit_at {x n : Int} (hx : U x) (h0 : 0 ≤ n) (h : n < 64) : Go.bits .and .u64 (shr .u64 x n) 1 = if tb x n.toNat = true then 1 else 0 := by
 rw [and_one (U_shr hx h0 h), tb_shr hx h0 h, Nat.zero_add]
theorem bit_at_eq {x n : Int} (hx : U x) (h0 : 0 ≤ n) (h : n < 64) : (Go.bits .and .u64 (shr .u64 x n) 1 == 1) = tb x n.toNat := by
 rw [bit_at hx h0 h]
 cases tb x n.toNat <;> simp
end Go.Proofs.Ytjofkebiacaciaa.Bit64
end
section
namespace Go.Proofs.Ytjofkebiacaciaa.T04
open Go Go.RowKit Go.Proofs.Ytjofkebiacaciaa.PAll Go.Proofs.YtjofkebiacaciaaW.PrintWords Go.Proofs.YtjofkebiacaciaaW.PrintLast Go.Proofs.YtjofkebiacaciaaW.PrintMore Go.Proofs.Ytjofkebiacaciaa.AllRead24 Go.Proofs.Ytjofkebiacaciaa.Bit64
set_option linter.all false
def bit (r : List Int) (j : Nat) : Bool := tb (rd r ((j / 64 : Nat) : Int)) (j % 64)
structure Row (n : Nat) (r : List Int) (G : Nat → Prop) : Prop where
 len : r.length = n / 64 + 1
 u : ∀ x, x ∈ r → U x
 bits : ∀ j, j < 64 * (n / 64 + 1) → (bit r j = true ↔ G j)
structure Sp (n : Nat) (m : List (List Int)) (G : Nat → Nat → Prop) : Prop where
 len : m.length = n + 1
 row : ∀ i, i ≤ n → Row n (rd_L4 m i) (G i)
theorem rd_nat (r : List Int) (i : Nat) : rd r (i : Int) = r.getD i 0 := by unfold rd; rw [Int.toNat_natCast]
theorem rdL_nat (m : List (List Int)) (i : Nat) : rd_L4 m (i : Int) = m.getD i [] := by unfold rd_L4; rw [Int.toNat_natCast]
theorem U_getD {r : List Int} (h : ∀ x, x ∈ r → U x) (i : Nat) : U (r.getD i 0) := by
 rw [List.getD_eq_getElem?_getD]
 cases hx : r[i]? with
 | none => exact U_zero
 | some v => exact h v (List.mem_of_getElem? hx)
theorem U_rd {r : List Int} (h : ∀ x, x ∈ r → U x) (i : Nat) : U (rd r (i : Int)) := by rw [rd_nat]; exact U_getD h i
theorem Row.congr {n : Nat} {r : List Int} {G H : Nat → Prop} (h : Row n r G) (e : ∀ j, G j ↔ H j) : Row n r H := ⟨h.len, h.u, fun j hj => (h.bits j hj).trans (e j)⟩
theorem Sp.congr {n : Nat} {m : List (List Int)} {G H : Nat → Nat → Prop} (h : Sp n m G) (e : ∀ i, i ≤ n → ∀ j, G i j ↔ H i j) : Sp n m H := ⟨h.len, fun i hi => (h.row i hi).congr (e i hi)⟩
theorem getD_set {α : Type} (l : List α) (i k : Nat) (v d : α) (hi : i < l.length) : (l.set i v).getD k d = if k = i then v else l.getD k d := by
 rw [List.getD_eq_getElem?_getD, List.getD_eq_getElem?_getD, List.getElem?_set]
 by_cases h : i = k
 ·subst h; simp [hi]
 ·rw [if_neg h, if_neg (fun e => h e.symm)]
theorem Sp.set {n : Nat} {m : List (List Int)} {G : Nat → Nat → Prop} {H : Nat → Prop} {r : List Int} (h : Sp n m G) {i : Nat} (hi : i ≤ n) (hr : Row n r H) : Sp n (m.set i r) (fun a b => if a = i then H b else G a b) := by
 refine ⟨by rw [List.length_set]; exact h.len, fun a ha => ?_⟩
 have e : rd_L4 (m.set i r) a = if a = i then r else rd_L4 m a := by rw [rdL_nat, getD_set _ _ _ _ _ (by rw [h.len]; omega), rdL_nat]
 rw [e]
 by_cases c : a = i
 ·rw [if_pos c]; exact hr.congr (fun j => by rw [if_pos c])
 ·rw [if_neg c]; exact (h.row a ha).congr (fun j => by rw [if_neg c])
theorem div64 {j n : Nat} (h : j ≤ n) : j / 64 < n / 64 + 1 := by have := Nat.div_le_div_right (c := 64) h; omega
theorem i_div {j : Nat} (h : j < 4611686018427387904) : wrap64 (Int.tdiv (j : Int) 64) = ((j / 64 : Nat) : Int) := by
 have e : Int.tdiv (j : Int) 64 = ((j / 64 : Nat) : Int) := rfl
 rw [e, w64 (by omega) (by have := Nat.div_le_self j 64; omega)]
theorem i_mod (j : Nat) : IntKind.u64.wrap (Int.tmod (j : Int) 64) = ((j % 64 : Nat) : Int) := by
 have e : Int.tmod (j : Int) 64 = ((j % 64 : Nat) : Int) := rfl
 rw [e]; exact wrap_idx (by omega) (by have := Nat.mod_lt j (show 64 > 0 by decide); omega)
theorem Row.add {n : Nat} {r : List Int} {G : Nat → Prop} (h : Row n r G) {j : Nat} (hj : j ≤ n) : Row n (r.set (j / 64) (Go.bits .or .u64 (rd r ((j / 64 : Nat) : Int)) (shl .u64 1 ((j % 64 : Nat) : Int)))) (fun b => G b ∨ b = j) := by
 have hm := Nat.mod_lt j (show 64 > 0 by decide)
 have hs : U (shl .u64 1 ((j % 64 : Nat) : Int)) := U_shl (by omega) (by omega)
 have hv := U_or (U_rd h.u (j / 64)) hs
 refine ⟨by rw [List.length_set]; exact h.len, fun x hx => ?_, fun b hb => ?_⟩
 ·rcases List.mem_or_eq_of_mem_set hx with hx | rfl
  ·exact h.u x hx
  ·exact hv
 ·have hd := div64 hj
  have hbi := h.bits b hb
  unfold bit at hbi ⊢
  rw [rd_nat, getD_set _ _ _ _ _ (by rw [h.len]; exact hd)]
  by_cases c : b / 64 = j / 64
  ·rw [if_pos c, tb_or (U_rd h.u _) hs, tb_shl (by omega) (by omega)]
   rw [c] at hbi
   rw [Bool.or_eq_true, hbi, Int.toNat_natCast, decide_eq_true_iff]
   have : b % 64 = j % 64 ↔ b = j := ⟨fun e => by have h1 := Nat.div_add_mod b 64; have h2 := Nat.div_add_mod j 64; omega, fun e => by rw [e]⟩
   rw [this]
  ·rw [if_neg c, ← rd_nat, hbi]
   exact ⟨Or.inl, fun e => e.elim id (fun e => absurd (by rw [e]) c)⟩
theorem has_eq {n : Nat} (hn : n < 4611686018427387904) {m : List (List Int)} {G : Nat → Nat → Prop} (h : Sp n m G) {i j : Nat} (hi : i ≤ n) (hj : j ≤ n) : ∃ b, expr_spans_has.f m i j = some b ∧ (b = true ↔ G i j) := by
 have hr := h.row i hi
 have hd := div64 hj
 have hm := Nat.mod_lt j (show 64 > 0 by decide)
 refine ⟨bit (rd_L4 m i) j, ?_, hr.bits j (by have := Nat.div_add_mod j 64; omega)⟩
 unfold expr_spans_has.f
 rw [if_pos (by omega), if_pos (by rw [h.len]; omega), i_div (by omega), i_mod, if_pos (by omega), if_pos (by rw [hr.len]; omega), if_pos (by omega), bit_at_eq (U_rd hr.u _) (by omega) (by omega), Int.toNat_natCast]
 rfl
def both (f : Int → Int → Int) (a b : List Int) : List Int := List.zipWith f a b
theorem getD_both (f : Int → Int → Int) (a b : List Int) (h : a.length = b.length) (k : Nat) (hk : k < a.length) : (both f a b).getD k 0 = f (a.getD k 0) (b.getD k 0) := by
 unfold both
 rw [List.getD_eq_getElem?_getD, List.getD_eq_getElem?_getD, List.getD_eq_getElem?_getD, List.getElem?_zipWith, List.getElem?_eq_getElem hk, List.getElem?_eq_getElem (h ▸ hk)]
 rfl
theorem Row.both {n : Nat} {a b : List Int} {G H K : Nat → Prop} (f : Int → Int → Int) (g : Bool → Bool → Bool) (ha : Row n a G) (hb : Row n b H) (hu : ∀ x y, U x → U y → U (f x y)) (ht : ∀ x y, U x → U y → ∀ j, tb (f x y) j = g (tb x j) (tb y j)) (hk : ∀ j, (∀ u v : Bool, (u = true ↔ G j) → (v = true ↔ H j) → (g u v = true ↔ K j))) : Row n (T04.both f a b) K := by
 have hl : a.length = b.length := by rw [ha.len, hb.len]
 refine ⟨by unfold T04.both; rw [List.length_zipWith, ha.len, hb.len, Nat.min_self], fun x hx => ?_, fun j hj => ?_⟩
 ·obtain ⟨i, hi, rfl⟩ := List.mem_iff_getElem.mp hx
  have hi' : i < a.length := by unfold T04.both at hi; rw [List.length_zipWith] at hi; omega
  have := getD_both f a b hl i hi'
  rw [List.getD_eq_getElem?_getD, List.getElem?_eq_getElem hi] at this
  rw [show (T04.both f a b)[i] = f (a.getD i 0) (b.getD i 0) from this]
  exact hu _ _ (U_getD ha.u i) (U_getD hb.u i)
 ·have h1 := ha.bits j hj
  have h2 := hb.bits j hj
  unfold bit at h1 h2 ⊢
  rw [rd_nat, getD_both f a b hl _ (by rw [ha.len]; omega), ht _ _ (U_getD ha.u _) (U_getD hb.u _)]
  rw [rd_nat] at h1 h2
  exact hk j _ _ h1 h2
theorem Row.or {n : Nat} {a b : List Int} {G H : Nat → Prop} (ha : Row n a G) (hb : Row n b H) : Row n (T04.both (Go.bits .or .u64) a b) (fun j => G j ∨ H j) :=
 ha.both (Go.bits .or .u64) (fun x y => x || y) hb (fun _ _ hx hy => U_or hx hy) (fun _ _ hx hy j => tb_or hx hy j) (fun j u v h1 h2 => by rw [Bool.or_eq_true, h1, h2])
theorem Row.and {n : Nat} {a b : List Int} {G H : Nat → Prop} (ha : Row n a G) (hb : Row n b H) : Row n (T04.both (Go.bits .and .u64) a b) (fun j => G j ∧ H j) :=
 ha.both (Go.bits .and .u64) (fun x y => x && y) hb (fun _ _ hx hy => U_and hx hy) (fun _ _ hx hy j => tb_and hx hy j) (fun j u v h1 h2 => by rw [Bool.and_eq_true, h1, h2])
theorem both_snd (a b : List Int) (h : a.length = b.length) : both (fun _ y => y) a b = b := by
 unfold both
 induction a generalizing b with
 | nil => cases b with
  | nil => rfl
  | cons _ _ => cases h
 | cons x r ih => cases b with
  | nil => cases h
  | cons y s => simp at h; simp [ih s h]
end Go.Proofs.Ytjofkebiacaciaa.T04
end
section
namespace Go.Proofs.Ytjofkebiacaciaa.T04
open Go Go.RowKit Go.Proofs.Ytjofkebiacaciaa.PAll Go.Proofs.YtjofkebiacaciaaW.PrintWords Go.Proofs.YtjofkebiacaciaaW.PrintLast Go.Proofs.YtjofkebiacaciaaW.PrintMore Go.Proofs.Ytjofkebiacaciaa.AllRead24 Go.Proofs.Ytjofkebiacaciaa.Bit64
set_option linter.all false
theorem up1 {i : Nat} (h : i ≤ 9000) : wrap64 ((i : Int) + 1) = ((i + 1 : Nat) : Int) := by rw [w64 (by omega) (by omega)]; rfl
theorem set_self (m : List (List Int)) {i : Nat} (h : i < m.length) : m.set i (rd_L4 m i) = m := by
 rw [rdL_nat]
 apply List.ext_getElem?
 intro k
 rw [List.getElem?_set]
 by_cases c : i = k
 ·subst c; simp [h, List.getD_eq_getElem?_getD]
 ·rw [if_neg c]
theorem rdL_set (m : List (List Int)) {i : Nat} (r : List Int) (h : i < m.length) : rd_L4 (m.set i r) i = r := by rw [rdL_nat, getD_set _ _ _ _ _ h, if_pos rfl]
theorem rdL_set_ne (m : List (List Int)) {i j : Nat} (r : List Int) (h : i < m.length) (hj : j ≠ i) : rd_L4 (m.set i r) j = rd_L4 m j := by rw [rdL_nat, getD_set _ _ _ _ _ h, if_neg hj, rdL_nat]
theorem rd_at (pa : List Int) (x : Int) (sa : List Int) : rd (pa ++ x :: sa) (pa.length : Int) = x := by
 rw [rd_nat]; simp [List.getD_eq_getElem?_getD]
theorem set_at (pa : List Int) (x y : Int) (sa : List Int) : (pa ++ x :: sa).set pa.length y = pa ++ y :: sa := by simp
theorem Row.zero (n : Nat) : Row n (List.replicate (n / 64 + 1) 0) (fun _ => False) := by
 refine ⟨by simp, fun x hx => ?_, fun j hj => ?_⟩
 ·rw [List.mem_replicate] at hx; rw [hx.2]; exact U_zero
 ·unfold bit
  rw [rd_nat, List.getD_eq_getElem?_getD, List.getElem?_replicate]
  split <;> simp
theorem newSpans_loop (n : Nat) (hn : n ≤ 4096) : ∀ (d i : Nat) (m : List (List Int)), i + d = n + 1 → m.length = n + 1 → (∀ a, a < i → Row n (rd_L4 m a) (fun _ => False)) → ∃ m', Ev (fun k => expr_newSpans.l0 k n m ((n + 1 : Nat) : Int) i) m' ∧ Sp n m' (fun _ _ => False) := by
 intro d
 induction d with
 | zero =>
  intro i m hi hl ha
  refine ⟨m, Ev.step (f := fun _ => some m) (fun k => by simp only [expr_newSpans.l0]; rw [if_neg (by omega)]) (Ev.now _), ⟨hl, fun a h => ha a (by omega)⟩⟩
 | succ d ih =>
  intro i m hi hl ha
  have e1 : wrap64 (wrap64 (Int.tdiv (n : Int) 64) + 1) = ((n / 64 + 1 : Nat) : Int) := by
   rw [i_div (by omega), up1 (by have := Nat.div_le_self n 64; omega)]
  obtain ⟨m', h1, h2⟩ := ih (i + 1) (m.set i (List.replicate (n / 64 + 1) 0)) (by omega) (by rw [List.length_set]; exact hl) (fun a h => by
   by_cases c : a = i
   ·subst c; rw [rdL_set _ _ (by omega)]; exact Row.zero n
   ·rw [rdL_set_ne _ _ (by omega) c]; exact ha a (by omega))
  refine ⟨m', Ev.step (f := fun k => expr_newSpans.l0 k n (m.set i (List.replicate (n / 64 + 1) 0)) ((n + 1 : Nat) : Int) ((i + 1 : Nat) : Int)) (fun k => ?_) h1, h2⟩
  simp only [expr_newSpans.l0]
  rw [if_pos (by omega), e1, if_pos (by omega), Int.toNat_natCast, if_pos (by have := Nat.div_le_self n 64; omega), if_pos (by omega), if_pos (by omega), Int.toNat_natCast, up1 (by omega)]
theorem newSpans_ev (n : Nat) (hn : n ≤ 4096) : ∃ m, Ev (fun k => expr_newSpans.f k n) m ∧ Sp n m (fun _ _ => False) := by
 obtain ⟨m, h1, h2⟩ := newSpans_loop n hn (n + 1) 0 (List.replicate (n + 1) []) (by omega) (by simp) (fun a h => absurd h (by omega))
 refine ⟨m, Ev.congr (fun k => ?_) h1, h2⟩
 simp only [expr_newSpans.f]
 rw [up1 (by omega), if_pos (by omega), Int.toNat_natCast, if_pos (by omega), Option.bind_some, List.length_replicate]
 rfl
theorem then_l2 (x0 x1 : List (List Int)) (x14 x15 : Int) {i j : Nat} (hj : j < x1.length) : ∀ (sa pa pb sb : List Int) (m : List (List Int)), i < m.length → rd_L4 m i = pa ++ sa → rd_L4 x1 j = pb ++ sb → pa.length = pb.length → sa.length = sb.length → (pa ++ sa).length ≤ 4096 →
  ∀ R, Ev (fun k => expr_spans_then.l1 k x0 x1 (m.set i (pa ++ both (Go.bits .or .u64) sa sb)) i (wrap64 ((j : Int) + 1)) x14 x15) R → Ev (fun k => expr_spans_then.l2 k x0 x1 m i j x14 x15 ((rd_L4 x1 j).length : Int) (pa.length : Int)) R := by
 intro sa
 induction sa with
 | nil =>
  intro pa pb sb m hi ha hb hl hs h4 R hR
  have : sb = [] := List.length_eq_zero_iff.mp hs.symm
  subst this
  rw [show pa ++ both (Go.bits .or .u64) [] [] = rd_L4 m i from by rw [ha]; rfl, set_self m hi] at hR
  refine Ev.step (fun k => ?_) hR
  simp only [expr_spans_then.l2]
  rw [if_neg (by rw [hb]; simp; omega)]
 | cons x sa ih =>
  intro pa pb sb m hi ha hb hl hs h4 R hR
  cases sb with
  | nil => cases hs
  | cons y sb =>
  have hln : ((pa.length : Int) + 1) = ((pa.length + 1 : Nat) : Int) := rfl
  have h4' : pa.length + sa.length + 1 ≤ 4096 := by simp at h4; omega
  have hb1 : rd_L4 x1 j = (pb ++ [y]) ++ sb := by rw [hb]; simp
  have e1 : rd (rd_L4 m i) (pa.length : Int) = x := by rw [ha, rd_at]
  have e2 : rd (rd_L4 x1 j) (pa.length : Int) = y := by rw [hb, hl, rd_at]
  have e3 : (rd_L4 m i).set pa.length (Go.bits .or .u64 x y) = (pa ++ [Go.bits .or .u64 x y]) ++ sa := by rw [ha, set_at]; simp
  have key := ih (pa ++ [Go.bits .or .u64 x y]) (pb ++ [y]) sb (m.set i ((pa ++ [Go.bits .or .u64 x y]) ++ sa)) (by rw [List.length_set]; exact hi) (rdL_set _ _ hi) hb1 (by simp [hl]) (by simpa using hs) (by simp; omega) R (by
   rw [List.set_set]
   have : (pa ++ [Go.bits .or .u64 x y]) ++ both (Go.bits .or .u64) sa sb = pa ++ both (Go.bits .or .u64) (x :: sa) (y :: sb) := by simp [both]
   rw [this]; exact hR)
  refine Ev.step (f := fun k => expr_spans_then.l2 k x0 x1 (m.set i ((pa ++ [Go.bits .or .u64 x y]) ++ sa)) i j x14 x15 ((rd_L4 x1 j).length : Int) ((pa ++ [Go.bits .or .u64 x y]).length : Int)) (fun k => ?_) key
  simp only [expr_spans_then.l2]
  rw [if_pos (by rw [hb]; simp; omega), if_pos (by omega), if_pos (by omega), if_pos (by omega), if_pos (by rw [ha]; simp; omega), if_pos (by omega), if_pos (by omega), if_pos (by rw [hb]; simp; omega), e1, e2, Int.toNat_natCast, Int.toNat_natCast, e3, up1 (by omega)]
  simp
theorem then_l1 {n : Nat} (hn : n ≤ 4096) {s t : List (List Int)} {S T : Nat → Nat → Prop} (hs : Sp n s S) (ht : Sp n t T) {i : Nat} (hi : i ≤ n) (x14 : Int) : ∀ (d j : Nat) (m : List (List Int)) (G : Nat → Nat → Prop), j + d = n + 1 → Sp n m G →
  ∃ m', Sp n m' (fun a b => if a = i then G i b ∨ ∃ c, j ≤ c ∧ c ≤ n ∧ S i c ∧ T c b else G a b) ∧ ∀ R, Ev (fun k => expr_spans_then.l0 k s t m' x14 ((i + 1 : Nat) : Int)) R → Ev (fun k => expr_spans_then.l1 k s t m i j x14 i) R := by
 intro d
 induction d with
 | zero =>
  intro j m G hj hm
  refine ⟨m, hm.congr (fun a ha b => ?_), fun R hR => Ev.step (fun k => ?_) hR⟩
  ·by_cases c : a = i
   ·subst c; rw [if_pos rfl]; exact ⟨Or.inl, fun h => h.elim id (fun ⟨c, h1, h2, _⟩ => by omega)⟩
   ·rw [if_neg c]
  ·simp only [expr_spans_then.l1]
   rw [if_neg (by rw [hs.len]; omega), up1 (by omega)]
 | succ d ih =>
  intro j m G hj hm
  obtain ⟨bv, hb, hbi⟩ := has_eq (by omega) hs hi (show j ≤ n by omega)
  have hstep : ∀ k, expr_spans_then.l1 (k + 1) s t m i j x14 i = (if bv = true then (expr_spans_then.l2 k s t m i j x14 i ((rd_L4 t j).length : Int) 0) else (expr_spans_then.l1 k s t m i ((j + 1 : Nat) : Int) x14 i)) := by
   intro k
   simp only [expr_spans_then.l1]
   rw [if_pos (by rw [hs.len]; omega), hb, Option.bind_some, up1 (by omega)]
   by_cases c : bv = true
   ·rw [if_pos c, if_pos c, if_pos (by omega), if_pos (by rw [ht.len]; omega)]
   ·rw [if_neg c, if_neg c]
  cases bv with
  | false =>
   have hf : ¬ S i j := fun h => by have := hbi.mpr h; cases this
   obtain ⟨m', h1, h2⟩ := ih (j + 1) m G (by omega) hm
   refine ⟨m', h1.congr (fun a ha b => ?_), fun R hR => Ev.step (fun k => hstep k) (by simpa using h2 R hR)⟩
   by_cases c : a = i
   ·rw [if_pos c, if_pos c]
    refine or_congr Iff.rfl ⟨fun ⟨c, h1, h2⟩ => ⟨c, by omega, h2⟩, fun ⟨c, q1, q2⟩ => ⟨c, ?_, q2⟩⟩
    by_cases e : c = j
    ·exact absurd (e ▸ q2.2.1) hf
    ·omega
   ·rw [if_neg c, if_neg c]
  | true =>
   have hf : S i j := hbi.mp rfl
   have ra := hm.row i hi
   have rb := ht.row j (by omega)
   obtain ⟨m', h1, h2⟩ := ih (j + 1) (m.set i (both (Go.bits .or .u64) (rd_L4 m i) (rd_L4 t j))) _ (by omega) (hm.set hi (ra.or rb))
   refine ⟨m', h1.congr (fun a ha b => ?_), fun R hR => Ev.step (fun k => hstep k) ?_⟩
   ·by_cases c : a = i
    ·subst c
     simp only [if_true]
     refine ⟨fun h => ?_, fun h => ?_⟩
     ·rcases h with (h | h) | ⟨c, h1, h2, h3⟩
      ·exact .inl h
      ·exact .inr ⟨j, by omega, by omega, hf, h⟩
      ·exact .inr ⟨c, by omega, h2, h3⟩
     ·rcases h with h | ⟨c, h1, h2, h3⟩
      ·exact .inl (.inl h)
      ·by_cases e : c = j
       ·subst e; exact .inl (.inr h3.2)
       ·exact .inr ⟨c, by omega, h2, h3⟩
    ·rw [if_neg c, if_neg c, if_neg c]
   ·simp only [if_true]
    exact then_l2 s t x14 i (j := j) (by rw [ht.len]; omega) (rd_L4 m i) [] [] (rd_L4 t j) m (by rw [hm.len]; omega) rfl rfl rfl (by rw [ra.len, rb.len]) (by have := ra.len; have := Nat.div_le_self n 64; simp; omega) R (by rw [up1 (by omega)]; simpa using h2 R hR)
theorem then_l0 {n : Nat} (hn : n ≤ 4096) {s t : List (List Int)} {S T : Nat → Nat → Prop} (hs : Sp n s S) (ht : Sp n t T) : ∀ (d i : Nat) (m : List (List Int)) (G : Nat → Nat → Prop), i + d = n + 1 → Sp n m G →
  ∃ m', Sp n m' (fun a b => if i ≤ a then G a b ∨ ∃ c, a ≤ c ∧ c ≤ n ∧ S a c ∧ T c b else G a b) ∧ Ev (fun k => expr_spans_then.l0 k s t m ((n + 1 : Nat) : Int) i) m' := by
 intro d
 induction d with
 | zero =>
  intro i m G hi hm
  exact ⟨m, hm.congr (fun a ha b => by rw [if_neg (by omega)]), Ev.step (f := fun _ => some m) (fun k => by simp only [expr_spans_then.l0]; rw [if_neg (by omega)]) (Ev.now _)⟩
 | succ d ih =>
  intro i m G hi hm
  obtain ⟨m1, h1, h2⟩ := then_l1 hn hs ht (show i ≤ n by omega) ((n + 1 : Nat) : Int) (n + 1 - i) i m G (by omega) hm
  obtain ⟨m', g1, g2⟩ := ih (i + 1) m1 _ (by omega) h1
  refine ⟨m', g1.congr (fun a ha b => ?_), Ev.step (f := fun k => expr_spans_then.l1 k s t m i i ((n + 1 : Nat) : Int) i) (fun k => by simp only [expr_spans_then.l0]; rw [if_pos (by omega)]) (h2 _ g2)⟩
  by_cases c : a = i
  ·subst c
   rw [if_neg (by omega), if_pos rfl, if_pos (Nat.le_refl _)]
  ·by_cases c2 : i ≤ a
   ·rw [if_pos (by omega), if_neg c, if_pos c2]
   ·rw [if_neg (by omega), if_neg c, if_neg c2]
theorem then_ev {n : Nat} (hn : n ≤ 4096) {s t : List (List Int)} {S T : Nat → Nat → Prop} (hs : Sp n s S) (ht : Sp n t T) : ∃ m, Sp n m (fun a b => ∃ c, a ≤ c ∧ c ≤ n ∧ S a c ∧ T c b) ∧ Ev (fun k => expr_spans_then.f k s t) m := by
 obtain ⟨m0, h1, h2⟩ := newSpans_ev n hn
 obtain ⟨m, g1, g2⟩ := then_l0 hn hs ht (n + 1) 0 m0 _ (by omega) h2
 have e : wrap64 ((s.length : Int) - 1) = (n : Int) := by rw [hs.len, w64 (by omega) (by omega)]; omega
 refine ⟨m, g1.congr (fun a ha b => by simp), Ev.congr (fun k => ?_) (Ev.bind (f := fun k y => expr_spans_then.l0 k s t y ((n + 1 : Nat) : Int) ((0 : Nat) : Int)) h1 g2)⟩
 simp only [expr_spans_then.f]
 rw [e, hs.len]
 rfl
end Go.Proofs.Ytjofkebiacaciaa.T04
end
section
namespace Go.Proofs.Ytjofkebiacaciaa.T04
open Go Go.RowKit Go.Proofs.Ytjofkebiacaciaa.PAll Go.Proofs.YtjofkebiacaciaaW.PrintWords Go.Proofs.YtjofkebiacaciaaW.PrintLast Go.Proofs.YtjofkebiacaciaaW.PrintMore Go.Proofs.Ytjofkebiacaciaa.AllRead24
set_option linter.all false
inductive Star (L : List Int → Prop) : List Int → Prop
 | nil : Star L []
 | cons {x y : List Int} (hx : x ≠ []) (h : L x) (t : Star L y) : Star L (x ++ y)
mutual
def Lang : S24 → List Int → Prop
 | ⟨o, a, l⟩, u => if o = 2 then u = [] else if o = 3 then (∃ b : Int, u = [b] ∧ (b - 97) % 256 = a) else if o = 4 then langOne l u else if o = 5 then langCat l u else if o = 6 then langAll l u else if o = 7 then langStar l u else if o = 8 then langNot l u else False
def langOne : List S24 → List Int → Prop
 | [], _ => False
 | x :: r, u => Lang x u ∨ langOne r u
def langAll : List S24 → List Int → Prop
 | [], _ => True
 | x :: r, u => Lang x u ∧ langAll r u
def langCat : List S24 → List Int → Prop
 | [], u => u = []
 | x :: r, u => ∃ v z, u = v ++ z ∧ Lang x v ∧ langCat r z
def langStar : List S24 → List Int → Prop
 | [], _ => False
 | x :: _, u => Star (Lang x) u
def langNot : List S24 → List Int → Prop
 | [], _ => False
 | x :: _, u => ¬ Lang x u
end
theorem Lang_mk (e : S24) (u : List Int) : Lang e u = if e.f0 = 2 then u = [] else if e.f0 = 3 then (∃ b : Int, u = [b] ∧ (b - 97) % 256 = e.f1) else if e.f0 = 4 then langOne e.f2 u else if e.f0 = 5 then langCat e.f2 u else if e.f0 = 6 then langAll e.f2 u else if e.f0 = 7 then langStar e.f2 u else if e.f0 = 8 then langNot e.f2 u else False := by cases e; rw [Lang]
theorem langOne_iff (l : List S24) (u : List Int) : langOne l u ↔ ∃ x, x ∈ l ∧ Lang x u := by
 induction l with
 | nil => simp [langOne]
 | cons x r ih => simp [langOne, ih]
theorem langAll_iff (l : List S24) (u : List Int) : langAll l u ↔ ∀ x, x ∈ l → Lang x u := by
 induction l with
 | nil => simp [langAll]
 | cons x r ih => simp [langAll, ih]
theorem langCat_one (x : S24) (u : List Int) : langCat [x] u ↔ Lang x u := by
 simp only [langCat]
 exact ⟨fun ⟨v, z, h, h1, h2⟩ => by rw [h, h2, List.append_nil]; exact h1, fun h => ⟨u, [], by simp, h, rfl⟩⟩
theorem langCat_snoc (l : List S24) (x : S24) (u : List Int) : langCat (l ++ [x]) u ↔ ∃ v z, u = v ++ z ∧ langCat l v ∧ Lang x z := by
 induction l generalizing u with
 | nil =>
  rw [List.nil_append, langCat_one]
  exact ⟨fun h => ⟨[], u, rfl, rfl, h⟩, fun ⟨v, z, h, h1, h2⟩ => by rw [h, show v = [] from h1]; exact h2⟩
 | cons y r ih =>
  simp only [List.cons_append, langCat]
  constructor
  ·rintro ⟨v, z, h, h1, h2⟩
   obtain ⟨v', z', h', h3, h4⟩ := (ih z).mp h2
   exact ⟨v ++ v', z', by rw [h, h', List.append_assoc], ⟨v, v', rfl, h1, h3⟩, h4⟩
  ·rintro ⟨v, z, h, ⟨v', z', h', h1, h2⟩, h3⟩
   exact ⟨v', z' ++ z, by rw [h, h', List.append_assoc], h1, (ih _).mpr ⟨z', z, rfl, h2, h3⟩⟩
theorem Star_iff (L : List Int → Prop) (u : List Int) : Star L u ↔ u = [] ∨ ∃ x y, u = x ++ y ∧ x ≠ [] ∧ L x ∧ Star L y := by
 constructor
 ·intro h
  cases h with
  | nil => exact .inl rfl
  | cons hx h t => exact .inr ⟨_, _, rfl, hx, h, t⟩
 ·rintro (rfl | ⟨x, y, rfl, hx, h, t⟩)
  ·exact .nil
  ·exact .cons hx h t
def sub (ws : List Int) (i j : Nat) : List Int := (ws.drop i).take (j - i)
theorem sub_len {ws : List Int} {i j : Nat} (hi : i ≤ j) (hj : j ≤ ws.length) : (sub ws i j).length = j - i := by
 unfold sub; rw [List.length_take, List.length_drop]; omega
theorem sub_cut (ws : List Int) {i c j : Nat} (h1 : i ≤ c) (h2 : c ≤ j) : sub ws i j = sub ws i c ++ sub ws c j := by
 unfold sub
 have e : ws.drop c = (ws.drop i).drop (c - i) := by rw [List.drop_drop]; congr 1; omega
 rw [e, show j - i = (c - i) + (j - c) by omega, List.take_add]
theorem sub_nil {ws : List Int} {i j : Nat} (hi : i ≤ j) (hj : j ≤ ws.length) : sub ws i j = [] ↔ i = j := by
 have := sub_len hi hj
 constructor
 ·intro h; rw [h] at this; simp at this; omega
 ·intro h; subst h; unfold sub; simp
theorem sub_app {ws : List Int} {i j : Nat} (hi : i ≤ j) (hj : j ≤ ws.length) (P Q : List Int → Prop) : (∃ v z, sub ws i j = v ++ z ∧ P v ∧ Q z) ↔ ∃ c, i ≤ c ∧ c ≤ j ∧ P (sub ws i c) ∧ Q (sub ws c j) := by
 constructor
 ·rintro ⟨v, z, h, h1, h2⟩
  have hl := congrArg List.length h
  rw [sub_len hi hj, List.length_append] at hl
  have hc := sub_cut ws (i := i) (c := i + v.length) (j := j) (by omega) (by omega)
  have e := List.append_inj (hc.symm.trans h) (by rw [sub_len (by omega) (by omega)]; omega)
  exact ⟨i + v.length, by omega, by omega, by rw [e.1]; exact h1, by rw [e.2]; exact h2⟩
 ·rintro ⟨c, h1, h2, h3, h4⟩
  exact ⟨_, _, sub_cut ws h1 h2, h3, h4⟩
theorem sub_one {ws : List Int} {i j : Nat} (hi : i ≤ j) (hj : j ≤ ws.length) (b : Int) : sub ws i j = [b] ↔ j = i + 1 ∧ ws.getD i 0 = b := by
 have hl := sub_len hi hj
 constructor
 ·intro h
  rw [h] at hl
  simp at hl
  have e : j = i + 1 := by omega
  subst e
  refine ⟨rfl, ?_⟩
  unfold sub at h
  rw [show i + 1 - i = 1 by omega, List.take_one, List.head?_drop] at h
  rw [List.getD_eq_getElem?_getD]
  cases hx : ws[i]? with
  | none => rw [hx] at h; simp at h
  | some v => rw [hx] at h; simp at h ⊢; exact h
 ·rintro ⟨rfl, rfl⟩
  unfold sub
  rw [show i + 1 - i = 1 by omega, List.take_one, List.head?_drop, List.getD_eq_getElem?_getD, List.getElem?_eq_getElem (by omega)]
  rfl
end Go.Proofs.Ytjofkebiacaciaa.T04
end
section
namespace Go.Proofs.Ytjofkebiacaciaa.T04
open Go Go.RowKit Go.Proofs.Ytjofkebiacaciaa.PAll Go.Proofs.YtjofkebiacaciaaW.PrintWords Go.Proofs.YtjofkebiacaciaaW.PrintLast Go.Proofs.YtjofkebiacaciaaW.PrintMore Go.Proofs.Ytjofkebiacaciaa.AllRead24 Go.Proofs.Ytjofkebiacaciaa.Bit64
set_option linter.all false
def lets (w : ByteArray) : List Int := (List.range w.size).map (fun i : Nat => Go.Proofs.YtjofkebiacaciaaW.PrintWords.bt w (i : Int))
theorem lets_len (w : ByteArray) : (lets w).length = w.size := by simp [lets]
theorem lets_get (w : ByteArray) {i : Nat} (h : i < w.size) : (lets w).getD i 0 = Go.Proofs.YtjofkebiacaciaaW.PrintWords.bt w (i : Int) := by
 simp [lets, List.getD_eq_getElem?_getD, h]
def SpL (ws : List Int) (P : List Int → Prop) (a b : Nat) : Prop := a ≤ b ∧ b ≤ ws.length ∧ P (sub ws a b)
theorem Sp.add {n : Nat} {m : List (List Int)} {G : Nat → Nat → Prop} (h : Sp n m G) {i j : Nat} (hi : i ≤ n) (hj : j ≤ n) : Sp n (m.set i ((rd_L4 m i).set (j / 64) (Go.bits .or .u64 (rd (rd_L4 m i) ((j / 64 : Nat) : Int)) (shl .u64 1 ((j % 64 : Nat) : Int))))) (fun a b => G a b ∨ (a = i ∧ b = j)) :=
 (h.set hi ((h.row i hi).add hj)).congr (fun a ha b => by
  by_cases c : a = i
  ·subst c; simp
  ·simp [c])
theorem unit_loop {n : Nat} (hn : n ≤ 4096) : ∀ (d i : Nat) (m : List (List Int)), i + d = n + 1 → Sp n m (fun a b => a < i ∧ b = a) → ∃ m', Ev (fun k => expr_match.l0 k m ((n + 1 : Nat) : Int) i) m' ∧ Sp n m' (fun a b => b = a) := by
 intro d
 induction d with
 | zero =>
  intro i m hi hm
  exact ⟨m, Ev.step (f := fun _ => some m) (fun k => by simp only [expr_match.l0]; rw [if_neg (by omega)]) (Ev.now _), hm.congr (fun a ha b => ⟨fun h => h.2, fun h => ⟨by omega, h⟩⟩)⟩
 | succ d ih =>
  intro i m hi hm
  have hr := hm.row i (by omega)
  obtain ⟨m', h1, h2⟩ := ih (i + 1) _ (by omega) ((hm.add (i := i) (j := i) (by omega) (by omega)).congr (fun a ha b => by omega))
  refine ⟨m', Ev.step (fun k => ?_) h1, h2⟩
  simp only [expr_match.l0]
  rw [if_pos (by omega), if_pos (by omega), if_pos (by rw [hm.len]; omega), i_div (by omega), i_mod, if_pos (by omega), if_pos (by rw [hr.len]; have := div64 (j := i) (n := n) (by omega); omega), if_pos (by omega), Int.toNat_natCast, Int.toNat_natCast, up1 (by omega)]
theorem letter_loop (w : ByteArray) (hn : w.size ≤ 4096) (o a : Int) (l : List S24) : ∀ (d i : Nat) (m : List (List Int)), i + d = w.size → Sp w.size m (fun x b => x < i ∧ b = x + 1 ∧ (Go.Proofs.YtjofkebiacaciaaW.PrintWords.bt w x - 97) % 256 = a) → ∃ m', Ev (fun k => expr_match.l1 k w (w.size : Int) m i o a l) m' ∧ Sp w.size m' (fun x b => x < w.size ∧ b = x + 1 ∧ (Go.Proofs.YtjofkebiacaciaaW.PrintWords.bt w x - 97) % 256 = a) := by
 intro d
 induction d with
 | zero =>
  intro i m hi hm
  exact ⟨m, Ev.step (f := fun _ => some m) (fun k => by simp only [expr_match.l1]; rw [if_neg (by omega)]) (Ev.now _), hm.congr (fun x ha b => by rw [show i = w.size by omega])⟩
 | succ d ih =>
  intro i m hi hm
  have hr := hm.row i (by omega)
  by_cases c : (Go.Proofs.YtjofkebiacaciaaW.PrintWords.bt w i - 97) % 256 = a
  ·obtain ⟨m', h1, h2⟩ := ih (i + 1) _ (by omega) ((hm.add (i := i) (j := i + 1) (by omega) (by omega)).congr (fun x ha b => by
    constructor
    ·rintro (⟨h1, h2⟩ | ⟨rfl, rfl⟩)
     ·exact ⟨by omega, h2⟩
     ·exact ⟨by omega, rfl, c⟩
    ·rintro ⟨h1, h2, h3⟩
     by_cases e : x = i
     ·subst e; exact .inr ⟨rfl, h2⟩
     ·exact .inl ⟨by omega, h2, h3⟩))
   refine ⟨m', Ev.step (fun k => ?_) h1, h2⟩
   simp only [expr_match.l1]
   rw [if_pos (by omega), if_pos (by omega), if_pos (by omega), if_pos c, if_pos (by rw [hm.len]; omega), up1 (by omega), i_div (by omega), i_mod, if_pos (by omega), if_pos (by rw [hr.len]; have := div64 (j := i + 1) (n := w.size) (by omega); omega), if_pos (by omega), Int.toNat_natCast, Int.toNat_natCast]
  ·obtain ⟨m', h1, h2⟩ := ih (i + 1) m (by omega) (hm.congr (fun x ha b => by
    constructor
    ·rintro ⟨h1, h2⟩; exact ⟨by omega, h2⟩
    ·rintro ⟨h1, h2, h3⟩
     by_cases e : x = i
     ·subst e; exact absurd h3 c
     ·exact ⟨by omega, h2, h3⟩))
   refine ⟨m', Ev.step (fun k => ?_) h1, h2⟩
   simp only [expr_match.l1]
   rw [if_pos (by omega), if_pos (by omega), if_pos (by omega), if_neg c, up1 (by omega)]
def mixF (x o : Int) : Int → Int → Int := if x = 0 then fun _ y => y else if o = 4 then Go.bits .or .u64 else Go.bits .and .u64
def mixP (x o : Int) (G H : Prop) : Prop := if x = 0 then H else if o = 4 then G ∨ H else G ∧ H
theorem Row.mix {n : Nat} {a b : List Int} {G H : Nat → Prop} (x o : Int) (ha : Row n a G) (hb : Row n b H) : Row n (T04.both (mixF x o) a b) (fun j => mixP x o (G j) (H j)) := by
 unfold mixF mixP
 by_cases h : x = 0
 ·simp only [if_pos h]
  rw [both_snd _ _ (by rw [ha.len, hb.len])]; exact hb
 ·simp only [if_neg h]
  by_cases h4 : o = 4
  ·simp only [if_pos h4]; exact ha.or hb
  ·simp only [if_neg h4]; exact ha.and hb
theorem mix_l4 (w : ByteArray) (m1 : List (List Int)) (x9 x66 x67 x76 x77 o a : Int) (x65 l : List S24) {i : Nat} (hj : i < m1.length) (L : Int) : ∀ (sa pa pb sb : List Int) (m : List (List Int)), i < m.length → rd_L4 m i = pa ++ sa → rd_L4 m1 i = pb ++ sb → pa.length = pb.length → sa.length = sb.length → (pa ++ sa).length ≤ 4096 → L = ((pa ++ sa).length : Int) →
  ∀ R, Ev (fun k => expr_match.l3 k w (m.set i (pa ++ both (mixF x9 o) sa sb)) x9 m1 x65 x66 x67 x76 (wrap64 (x77 + 1)) o a l) R → Ev (fun k => expr_match.l4 k w m x9 m1 i x65 x66 x67 x76 x77 L (pa.length : Int) o a l) R := by
 intro sa
 induction sa with
 | nil =>
  intro pa pb sb m hi ha hb hl hs h4 hL R hR
  have : sb = [] := List.length_eq_zero_iff.mp hs.symm
  subst this
  rw [show pa ++ both (mixF x9 o) [] [] = rd_L4 m i from by rw [ha]; rfl, set_self m hi] at hR
  refine Ev.step (fun k => ?_) hR
  simp only [expr_match.l4]
  rw [if_neg (by rw [hL]; simp)]
 | cons x sa ih =>
  intro pa pb sb m hi ha hb hl hs h4 hL R hR
  cases sb with
  | nil => cases hs
  | cons y sb =>
  have h4' : pa.length + sa.length + 1 ≤ 4096 := by simp at h4; omega
  have hb1 : rd_L4 m1 i = (pb ++ [y]) ++ sb := by rw [hb]; simp
  have e1 : rd (rd_L4 m i) (pa.length : Int) = x := by rw [ha, rd_at]
  have e2 : rd (rd_L4 m1 i) (pa.length : Int) = y := by rw [hb, hl, rd_at]
  have e3 : ∀ z, (rd_L4 m i).set pa.length z = (pa ++ [z]) ++ sa := fun z => by rw [ha, set_at]; simp
  have key := ih (pa ++ [mixF x9 o x y]) (pb ++ [y]) sb (m.set i ((pa ++ [mixF x9 o x y]) ++ sa)) (by rw [List.length_set]; exact hi) (rdL_set _ _ hi) hb1 (by simp [hl]) (by simpa using hs) (by simp; omega) (by rw [hL]; simp) R (by
   rw [List.set_set]
   have : (pa ++ [mixF x9 o x y]) ++ both (mixF x9 o) sa sb = pa ++ both (mixF x9 o) (x :: sa) (y :: sb) := by simp [both]
   rw [this]; exact hR)
  refine Ev.step (f := fun k => expr_match.l4 k w (m.set i ((pa ++ [mixF x9 o x y]) ++ sa)) x9 m1 i x65 x66 x67 x76 x77 L ((pa ++ [mixF x9 o x y]).length : Int) o a l) (fun k => ?_) key
  have q1 : (pa.length : Int) < ((rd_L4 m i).length : Int) := by rw [ha]; simp; omega
  have q2 : (pa.length : Int) < ((rd_L4 m1 i).length : Int) := by rw [hb]; simp; omega
  have q3 : wrap64 ((pa.length : Int) + 1) = ((pa ++ [mixF x9 o x y]).length : Int) := by rw [up1 (by omega)]; simp
  simp only [expr_match.l4]
  rw [if_pos (by rw [hL]; simp; omega), q3, e1, e2]
  by_cases hx : x9 = 0
  ·rw [if_pos hx, if_pos (by omega), if_pos (by omega), if_pos (by omega), if_pos (by omega), if_pos q2, if_pos q1, Int.toNat_natCast, Int.toNat_natCast, e3]
   simp [mixF, hx]
  ·rw [if_neg hx]
   by_cases ho : o = 4
   ·rw [if_pos ho, if_pos (by omega), if_pos (by omega), if_pos (by omega), if_pos q1, if_pos (by omega), if_pos q2, Int.toNat_natCast, Int.toNat_natCast, e3]
    simp [mixF, hx, ho]
   ·rw [if_neg ho, if_pos (by omega), if_pos (by omega), if_pos (by omega), if_pos q1, if_pos (by omega), if_pos q2, Int.toNat_natCast, Int.toNat_natCast, e3]
    simp [mixF, hx, ho]
theorem mix_l3 {n : Nat} (hn : n ≤ 4096) (w : ByteArray) {t : List (List Int)} {H : Nat → Nat → Prop} (ht : Sp n t H) (x9 x66 x67 o a : Int) (x65 l : List S24) : ∀ (d i : Nat) (m : List (List Int)) (G : Nat → Nat → Prop), i + d = n + 1 → Sp n m G →
  ∃ m', Sp n m' (fun x b => if i ≤ x then mixP x9 o (G x b) (H x b) else G x b) ∧ ∀ R, Ev (fun k => expr_match.l2 k w m' x65 x66 (wrap64 (x67 + 1)) o a l) R → Ev (fun k => expr_match.l3 k w m x9 t x65 x66 x67 ((n + 1 : Nat) : Int) i o a l) R := by
 intro d
 induction d with
 | zero =>
  intro i m G hi hm
  refine ⟨m, hm.congr (fun a ha b => by rw [if_neg (by omega)]), fun R hR => Ev.step (fun k => ?_) hR⟩
  simp only [expr_match.l3]
  rw [if_neg (by omega)]
 | succ d ih =>
  intro i m G hi hm
  have ra := hm.row i (by omega)
  have rb := ht.row i (by omega)
  obtain ⟨m', h1, h2⟩ := ih (i + 1) (m.set i (both (mixF x9 o) (rd_L4 m i) (rd_L4 t i))) _ (by omega) (hm.set (by omega) (ra.mix x9 o rb))
  refine ⟨m', h1.congr (fun x ha b => ?_), fun R hR => Ev.step (f := fun k => expr_match.l4 k w m x9 t i x65 x66 x67 ((n + 1 : Nat) : Int) i ((rd_L4 m i).length : Int) 0 o a l) (fun k => ?_) (mix_l4 w t x9 x66 x67 _ i o a x65 l (by rw [ht.len]; omega) _ (rd_L4 m i) [] [] (rd_L4 t i) m (by rw [hm.len]; omega) rfl rfl rfl (by rw [ra.len, rb.len]) (by have := ra.len; have := Nat.div_le_self n 64; simp; omega) rfl R (by rw [up1 (by omega)]; simpa using h2 R hR))⟩
  ·by_cases c : x = i
   ·subst c
    rw [if_neg (by omega), if_pos rfl, if_pos (Nat.le_refl _)]
   ·by_cases c2 : i ≤ x
    ·rw [if_pos (by omega), if_neg c, if_pos c2]
    ·rw [if_neg (by omega), if_neg c, if_neg c2]
  ·simp only [expr_match.l3]
   rw [if_pos (by omega), if_pos (by omega), if_pos (by rw [hm.len]; omega)]
end Go.Proofs.Ytjofkebiacaciaa.T04
end
