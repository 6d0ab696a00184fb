/- The functions that the laws of this seat reach, a proof for each that the Go code comes to them, and the plain laws; merged. Conditions: none beside those of the given statements. -/
import Derived.StillTailTactics
import Derived.Defers
import Derived.Recover
import Derived.Laws.Pointers
import Derived.DataElems
import Derived.DataReads
import Derived.ChangeArms
import Derived.Lib.SmallJoins
import Derived.OpenShut
import Derived.Test.YtjofkebiacaciaaMc14
import Derived.Test.YtjofkebiacaciaaMc15
section
namespace Go.Proofs.Ytjofkebiacaciaa.PAll
open Go.RowKit Go.Proofs.YtjofkebiacaciaaW.PrintWords Go.Proofs.YtjofkebiacaciaaW.PrintLast Go.Proofs.YtjofkebiacaciaaW.PrintMore
attribute [local go_sem] max2_int min2_int max_two min_two max_three min_three max_four min_four
set_option linter.unusedVariables false
set_option linter.unusedSimpArgs false
set_option linter.all false
variable [AtomC]
def expr_parser_atomS.f (k : Nat) (s0_0 : ByteArray) (s0_1 : Int) (s0_2 : Int) : Option (Int × Int × (List (S24)) × ByteArray × Int × Int) := (expr_parser_is.f k s0_0 s0_1 s0_2 48).bind fun bt124 => (if bt124.1 = true then ((simplify_Empty.f).bind fun bt128 => (some (bt128.1, bt128.2.1, bt128.2.2, bt124.2.1, bt124.2.2.1, wrap64 (bt124.2.2.2 + 1)))) else ((expr_parser_is.f k bt124.2.1 bt124.2.2.1 bt124.2.2.2 49).bind fun bt133 => (if bt133.1 = true then ((simplify_Unit.f).bind fun bt137 => (some (bt137.1, bt137.2.1, bt137.2.2, bt133.2.1, bt133.2.2.1, wrap64 (bt133.2.2.2 + 1)))) else ((expr_parser_letter.f k bt133.2.1 bt133.2.2.1 bt133.2.2.2).bind fun bt142 => (if bt142.1 = true then (if 0 ≤ (wrap64 ((wrap64 (bt142.2.2.2 + 1)) - 1)) then (if (wrap64 ((wrap64 (bt142.2.2.2 + 1)) - 1)) < (bt142.2.1.size : Int) then (some (3, ((bt bt142.2.1 (wrap64 ((wrap64 (bt142.2.2.2 + 1)) - 1))) - 97) % 256, ([] : List (S24)), bt142.2.1, bt142.2.2.1, wrap64 (bt142.2.2.2 + 1))) else (none)) else (none)) else ((expr_parser_is.f k bt142.2.1 bt142.2.2.1 bt142.2.2.2 40).bind fun bt146 => (if bt146.1 = true then ((expr_parser_union.f k bt146.2.1 bt146.2.2.1 (wrap64 (bt146.2.2.2 + 1))).bind fun bt150 => ((expr_parser_is.f k bt150.2.2.2.1 bt150.2.2.2.2.1 bt150.2.2.2.2.2 41).bind fun bt159 => (if bt159.1 = true then (some (bt150.1, bt150.2.1, bt150.2.2.1, bt159.2.1, bt159.2.2.1, wrap64 (bt159.2.2.2 + 1))) else (none)))) else (none))))))))
theorem expr_parser_atomS.mono : ∀ a0 a1 a2 k, LeO (expr_parser_atomS.f k a0 a1 a2) (expr_parser_atomS.f (k + 1) a0 a1 a2) := by
 intro a0 a1 a2 k
 unfold expr_parser_atomS.f
 repeat' first
   | (with_reducible exact expr_parser_is.mono _ _ _ _ _)
   | (with_reducible exact expr_parser_letter.mono _ _ _ _)
   | (with_reducible exact expr_parser_union.mono _ _ _ _)
   | (with_reducible exact LeO.refl _)
   | (with_reducible exact LeO.none _)
   | (with_reducible refine LeO.ite ?_ ?_)
   | (with_reducible refine LeO.bind ?_ (fun _ => ?_))
   | exact expr_parser_is.mono _ _ _ _ _
   | exact expr_parser_letter.mono _ _ _ _
   | exact expr_parser_union.mono _ _ _ _
   | exact LeO.none _
   | refine LeO.ite ?_ ?_
   | refine LeO.bind ?_ (fun _ => ?_)
set_option maxHeartbeats 8000000 in
set_option maxRecDepth 100000 in
theorem expr_parser_atomS.calls (k : Nat) (g : Nat) (s0_0 : ByteArray) (s0_1 : Int) (s0_2 : Int) (r1 : Int) (r2 : Int) (r3 : List (S24)) (r4 : ByteArray) (r5 : Int) (r6 : Int) (w0 w : World) (hI : IsS50 w0 w g s0_0 s0_1 s0_2) (hB : Below w0.heap.size w0 w) (h : expr_parser_atomS.f k s0_0 s0_1 s0_2 = some (r1, r2, r3, r4, r5, r6)) :
  Calls Try.prog 102 #[.pointer (some ⟨g, 0, none⟩)] w fun e w' => ∃ v2_ : Value, e = .returned (.agg #[.int .i64 r1, .int .i64 r2, v2_]) ∧ Kd.V k24 24 w' w.heap.size (fun k_ => (w.heap.size ≤ k_)) v2_ r3 ∧ IsS50 w0 w' g r4 r5 r6 ∧ Below w0.heap.size w0 w' ∧ KeepBut w w' g none := by
 have hu24 := Try.underlying24
 have HI0 := Aside0.mk hI
 have HK := Aside0.mk (KeepBut.refl w g none)
 have HL := Aside0.mk hB.size
 clear hI
 have HW0 := Aside0.mk hB.size
 have HB := Aside0.mk hB
 clear hB
 have H : ((expr_parser_is.f k s0_0 s0_1 s0_2 48).bind fun bt124 => (if bt124.1 = true then ((simplify_Empty.f).bind fun bt128 => (some (bt128.1, bt128.2.1, bt128.2.2, bt124.2.1, bt124.2.2.1, wrap64 (bt124.2.2.2 + 1)))) else ((expr_parser_is.f k bt124.2.1 bt124.2.2.1 bt124.2.2.2 49).bind fun bt133 => (if bt133.1 = true then ((simplify_Unit.f).bind fun bt137 => (some (bt137.1, bt137.2.1, bt137.2.2, bt133.2.1, bt133.2.2.1, wrap64 (bt133.2.2.2 + 1)))) else ((expr_parser_letter.f k bt133.2.1 bt133.2.2.1 bt133.2.2.2).bind fun bt142 => (if bt142.1 = true then (if 0 ≤ (wrap64 ((wrap64 (bt142.2.2.2 + 1)) - 1)) then (if (wrap64 ((wrap64 (bt142.2.2.2 + 1)) - 1)) < (bt142.2.1.size : Int) then (some (3, ((bt bt142.2.1 (wrap64 ((wrap64 (bt142.2.2.2 + 1)) - 1))) - 97) % 256, ([] : List (S24)), bt142.2.1, bt142.2.2.1, wrap64 (bt142.2.2.2 + 1))) else (none)) else (none)) else ((expr_parser_is.f k bt142.2.1 bt142.2.2.1 bt142.2.2.2 40).bind fun bt146 => (if bt146.1 = true then ((expr_parser_union.f k bt146.2.1 bt146.2.2.1 (wrap64 (bt146.2.2.2 + 1))).bind fun bt150 => ((expr_parser_is.f k bt150.2.2.2.1 bt150.2.2.2.2.1 bt150.2.2.2.2.2 41).bind fun bt159 => (if bt159.1 = true then (some (bt150.1, bt150.2.1, bt150.2.2.1, bt159.2.1, bt159.2.2.1, wrap64 (bt159.2.2.2 + 1))) else (none)))) else (none))))))))) = some (r1, r2, r3, r4, r5, r6) := h
 clear h
 replace H := Option.bind_eq_some_iff.mp H
 obtain ⟨⟨t124, t125, t126, t127⟩, A20, H⟩ := H
 replace H : (if t124 = true then ((simplify_Empty.f).bind fun bt128 => (some (bt128.1, bt128.2.1, bt128.2.2, t125, t126, wrap64 (t127 + 1)))) else ((expr_parser_is.f k t125 t126 t127 49).bind fun bt133 => (if bt133.1 = true then ((simplify_Unit.f).bind fun bt137 => (some (bt137.1, bt137.2.1, bt137.2.2, bt133.2.1, bt133.2.2.1, wrap64 (bt133.2.2.2 + 1)))) else ((expr_parser_letter.f k bt133.2.1 bt133.2.2.1 bt133.2.2.2).bind fun bt142 => (if bt142.1 = true then (if 0 ≤ (wrap64 ((wrap64 (bt142.2.2.2 + 1)) - 1)) then (if (wrap64 ((wrap64 (bt142.2.2.2 + 1)) - 1)) < (bt142.2.1.size : Int) then (some (3, ((bt bt142.2.1 (wrap64 ((wrap64 (bt142.2.2.2 + 1)) - 1))) - 97) % 256, ([] : List (S24)), bt142.2.1, bt142.2.2.1, wrap64 (bt142.2.2.2 + 1))) else (none)) else (none)) else ((expr_parser_is.f k bt142.2.1 bt142.2.2.1 bt142.2.2.2 40).bind fun bt146 => (if bt146.1 = true then ((expr_parser_union.f k bt146.2.1 bt146.2.2.1 (wrap64 (bt146.2.2.2 + 1))).bind fun bt150 => ((expr_parser_is.f k bt150.2.2.2.1 bt150.2.2.2.2.1 bt150.2.2.2.2.2 41).bind fun bt159 => (if bt159.1 = true then (some (bt150.1, bt150.2.1, bt150.2.2.1, bt159.2.1, bt159.2.2.1, wrap64 (bt159.2.2.2 + 1))) else (none)))) else (none)))))))) = some (r1, r2, r3, r4, r5, r6) := H
 have A2 := Aside0.mk A20
 clear A20
 by_cases c3 : t124 = true
 ·subst c3
  have H1 : ((simplify_Empty.f).bind fun bt128 => (some (bt128.1, bt128.2.1, bt128.2.2, t125, t126, wrap64 (t127 + 1)))) = some (r1, r2, r3, r4, r5, r6) := by rw [if_pos rfl] at H; exact H
  clear H
  have H := H1
  clear H1
  replace H := Option.bind_eq_some_iff.mp H
  obtain ⟨⟨t128, t129, t130⟩, A40, H⟩ := H
  replace H : (some (t128, t129, t130, t125, t126, wrap64 (t127 + 1))) = some (r1, r2, r3, r4, r5, r6) := H
  have A4 := Aside0.mk A40
  clear A40
  simp only [Option.some.injEq, Prod.mk.injEq] at H
  obtain ⟨rfl, rfl, rfl, rfl, rfl, rfl⟩ := H
  go_enter Try.func102, Try.ntmps102
  go_wp2_with (first | ((with_reducible refine gate_dst (N := 2) rfl ?_); refine box_event ?hg (N := 2) ?hd (cs := #[.int .i64 0, .int .i64 0, .slice none 0 0]) (t := 24) ?hr ?_; (case hd => rfl); (case hg => rfl); (case hr => first | (go_simp; done) | (go_simp; rfl)); intro gb123 hg w5 hbox hb; have n0_ := Aside0.mk (IsS50.below (by repeat (first | (with_reducible first | exact HI0.out | apply IsS50.alloc | apply IsS50.drewN | apply IsS50.drew | apply IsS50.set_0 | apply IsS50.set_1 | apply IsS50.set_2) | exact HI0.out)) hb); have n1_ := Aside0.mk (KeepBut.trans (by repeat (first | (with_reducible first | exact HK.out | apply KeepBut.set_ | apply keep_drewN | apply keep_drew | apply keep_alloc) | exact HK.out)) (KeepBut.of_below hb g none) (.inl rfl)); have n2_ := Aside0.mk (below_step (by repeat (first | (with_reducible first | exact HB.out | apply below_alloc | apply pw_below_drewN | apply below_drew1 | refine below_set ?_ (IsS50.ge HI0.out)) | exact HB.out)) hb); have n3_ := Aside0.mk (hbox); have n4_ := Aside0.mk ((by rw [hg]; exact (keep_size (w := w) (g := g) (row := none) (by repeat (first | (with_reducible first | exact HK.out | apply KeepBut.set_ | apply keep_drewN | apply keep_drew | apply keep_alloc) | exact HK.out))) : w.heap.size ≤ gb123)); have n5_ := Aside0.mk ((Nat.le_trans HW0.out (by rw [hg]; exact (keep_size (w := w) (g := g) (row := none) (by repeat (first | (with_reducible first | exact HK.out | apply KeepBut.set_ | apply keep_drewN | apply keep_drew | apply keep_alloc) | exact HK.out))) : w.heap.size ≤ gb123) : w0.heap.size ≤ gb123)); have n6_ := Aside0.mk ((by rw [hg]; exact Nat.ne_of_lt (IsS50.lt (show IsS50 w0 _ g s0_0 s0_1 s0_2 from by repeat (first | (with_reducible first | exact HI0.out | apply IsS50.alloc | apply IsS50.drewN | apply IsS50.drew | apply IsS50.set_0 | apply IsS50.set_1 | apply IsS50.set_2) | exact HI0.out))) : g ≠ gb123)); have n7_ := Aside0.mk ((by rw [hg]; exact Nat.ne_of_gt (IsS50.lt (show IsS50 w0 _ g s0_0 s0_1 s0_2 from by repeat (first | (with_reducible first | exact HI0.out | apply IsS50.alloc | apply IsS50.drewN | apply IsS50.drew | apply IsS50.set_0 | apply IsS50.set_1 | apply IsS50.set_2) | exact HI0.out))) : gb123 ≠ g)); clear HI0; clear HK; clear HB; have HI0 := n0_; have HK := n1_; have HB := n2_; have BK123 := n3_; have GW123 := n4_; have GE123 := n5_; have NB0_123 := n6_; have NB123_0 := n7_; clear n0_ n1_ n2_ n3_ n4_ n5_ n6_ n7_; clear hb hbox hg) | ((with_reducible refine gate_callee (f := 83) rfl ?_); refine goesL_ (some 6) rfl rfl Try.func83 (by kernel_rfl) rfl #[.pointer (some ⟨g, 0, none⟩), .int .u8 48] rfl (by (try simp only [List.map_toArray, List.map_cons, List.map_nil]); first | done | rfl | (simp only [List.length_drop, List.length_take]; rfl)) ?_; (with_reducible refine (expr_parser_is.calls k g s0_0 s0_1 s0_2 48 true t125 t126 t127 w0 _ ?side1 ?side2 A2.out).mono ?_); (case side1 => repeat (first | (with_reducible first | exact HI0.out | apply IsS50.alloc | apply IsS50.drewN | apply IsS50.drew | apply IsS50.set_0 | apply IsS50.set_1 | apply IsS50.set_2 | refine IsS50.far ?_ NB0_123.out _) | exact HI0.out)); (case side2 => repeat (first | (with_reducible first | exact HB.out | apply below_alloc | apply pw_below_drewN | apply below_drew1 | refine below_set ?_ (IsS50.ge HI0.out) | refine below_set ?_ GE123.out) | exact HB.out)); rintro e w6 ⟨rfl, hi, hb, hk⟩; refine ⟨_, rfl, ?_⟩; have n0_ := Aside0.mk (KeepBut.blk hk (g' := gb123) (o := .cells #[.int .i64 0, .int .i64 0, .slice none 0 0] 24 (0, 0)) (by (with_reducible repeat (first | refine blk_drewN ?_ _ | refine blk_drew ?_ | refine blk_alloc ?_ _)); exact BK123.out) NB123_0.out (by simp)); have n1_ := Aside0.mk (KeepBut.trans (by repeat (first | (with_reducible first | exact HK.out | apply KeepBut.set_ | apply keep_drewN | apply keep_drew | apply keep_alloc | refine keep_far ?_ GW123.out _) | exact HK.out)) hk (.inl rfl)); have n2_ := Aside0.mk (hb); have n3_ := Aside0.mk (hi); clear BK123; clear HK; clear HB; clear HI0; have BK123 := n0_; have HK := n1_; have HB := n2_; have HI0 := n3_; clear n0_ n1_ n2_ n3_; (try clear hb); (try clear hb2); (try clear hk); (try clear hi); obtain ⟨HGz7, hgz7⟩ := HI0.out; have hcz7_0 := cellS50_0 HGz7; have hcz7_1 := cellS50_1 HGz7; have hcz7_2 := cellS50_2 HGz7; have hfz7_0 := blk_frozen HGz7 0; have hfz7_1 := blk_frozen HGz7 1; have hfz7_2 := blk_frozen HGz7 2; clear HGz7 hgz7) | ((with_reducible refine gate_callee (f := 90) rfl ?_); (fail_if_success (have chk_ := HO132)); refine goesL_ (some 14) rfl rfl Try.func90 (by kernel_rfl) rfl #[] rfl (by (try simp only [List.map_toArray, List.map_cons, List.map_nil]); first | done | rfl | (simp only [List.length_drop, List.length_take]; rfl)) ?_; (with_reducible refine (simplify_Empty.calls  t128 t129 t130 _ A4.out).mono ?_); rintro e w8 ⟨v131, rfl, ho0, hb⟩; refine ⟨_, rfl, ?_⟩; have n0_ := Aside0.mk (Kd.R_lower (Kd.R_newB (Kd.R_newM (M := fun k_ => (w.heap.size ≤ k_)) ho0 (keep_size (w := w) (g := g) (row := none) (by repeat (first | (with_reducible first | exact HK.out | apply KeepBut.set_ | apply keep_drewN | apply keep_drew | apply keep_alloc | refine keep_far ?_ GW123.out _) | exact HK.out))) (fun k_ h_ => h_)) (g := gb123) (o := .cells #[.int .i64 0, .int .i64 0, .slice none 0 0] 24 (0, 0)) (by (with_reducible repeat (first | refine blk_drewN ?_ _ | refine blk_drew ?_ | refine blk_alloc ?_ _)); refine blk_far ?_ NB123_0.out _; (with_reducible repeat (first | refine blk_drewN ?_ _ | refine blk_drew ?_ | refine blk_alloc ?_ _)); exact BK123.out)) (keep_size (w := w) (g := g) (row := none) (by repeat (first | (with_reducible first | exact HK.out | apply KeepBut.set_ | apply keep_drewN | apply keep_drew | apply keep_alloc | refine keep_far ?_ GW123.out _) | exact HK.out)))); have n1_ := Aside0.mk (IsS50.below (show IsS50 w0 (w6.setCell ⟨g, 2, none⟩ (.int .i64 (wrap64 (t127 + 1)))) g t125 t126 (wrap64 (t127 + 1)) from by repeat (first | (with_reducible first | exact HI0.out | apply IsS50.alloc | apply IsS50.drewN | apply IsS50.drew | apply IsS50.set_0 | apply IsS50.set_1 | apply IsS50.set_2 | refine IsS50.far ?_ NB0_123.out _) | exact HI0.out)) hb); have n2_ := Aside0.mk (blk_below (g := gb123) (o := .cells #[.int .i64 0, .int .i64 0, .slice none 0 0] 24 (0, 0)) (by (with_reducible repeat (first | refine blk_drewN ?_ _ | refine blk_drew ?_ | refine blk_alloc ?_ _)); refine blk_far ?_ NB123_0.out _; (with_reducible repeat (first | refine blk_drewN ?_ _ | refine blk_drew ?_ | refine blk_alloc ?_ _)); exact BK123.out) hb); have n3_ := Aside0.mk (KeepBut.trans (by repeat (first | (with_reducible first | exact HK.out | apply KeepBut.set_ | apply keep_drewN | apply keep_drew | apply keep_alloc | refine keep_far ?_ GW123.out _) | exact HK.out)) (KeepBut.of_below hb g none) (.inl rfl)); have n4_ := Aside0.mk (below_step (by repeat (first | (with_reducible first | exact HB.out | apply below_alloc | apply pw_below_drewN | apply below_drew1 | refine below_set ?_ (IsS50.ge HI0.out) | refine below_set ?_ GE123.out) | exact HB.out)) hb); clear HI0; clear BK123; clear HK; clear HB; have HO132 := n0_; have HI0 := n1_; have BK123 := n2_; have HK := n3_; have HB := n4_; clear n0_ n1_ n2_ n3_ n4_; (try clear hb); (try clear hb2); (try clear hk); (try clear hi); (try clear ho0); have hnb9 := NB123_0.out; have hnc9 := NB0_123.out; have hcz10_0 : w8.cell? ⟨gb123, 0, none⟩ = some (.int .i64 0) := (blk_cell BK123.out 0).trans rfl; have hcz10_1 : w8.cell? ⟨gb123, 1, none⟩ = some (.int .i64 0) := (blk_cell BK123.out 1).trans rfl; have hcz10_2 : w8.cell? ⟨gb123, 2, none⟩ = some (.slice none 0 0) := (blk_cell BK123.out 2).trans rfl; have hfz10_0 := blk_frozen BK123.out 0; have hfz10_1 := blk_frozen BK123.out 1; have hfz10_2 := blk_frozen BK123.out 2; obtain ⟨Ao11, co11, eo11⟩ := Kd.R_slice HO132.out; subst eo11))
  refine bodyPost_ret (results_cell_row rfl _ _ gb123 24 #[.int .i64 t128, .int .i64 t129, .slice Ao11 t130.length co11] (0, 0) _ rfl (by (with_reducible repeat (first | refine blk_drewN ?_ _ | refine blk_drew ?_ | refine blk_alloc ?_ _)); refine blk_put (cs := #[.int .i64 t128, .int .i64 t129, .slice none 0 0]) ?_ 2 _ rfl; (with_reducible repeat (first | refine blk_drewN ?_ _ | refine blk_drew ?_ | refine blk_alloc ?_ _)); refine blk_put (cs := #[.int .i64 t128, .int .i64 0, .slice none 0 0]) ?_ 1 _ rfl; (with_reducible repeat (first | refine blk_drewN ?_ _ | refine blk_drew ?_ | refine blk_alloc ?_ _)); refine blk_put (cs := #[.int .i64 0, .int .i64 0, .slice none 0 0]) ?_ 0 _ rfl; (with_reducible repeat (first | refine blk_drewN ?_ _ | refine blk_drew ?_ | refine blk_alloc ?_ _)); exact BK123.out) Try.underlying24 rfl (by kernel_rfl)) rfl ?_
  exact ⟨_, by first | rfl | (simp [errW_none, errW_some] <;> rfl) | (simp [*, errW_none, errW_some] <;> rfl), Kd.R_V (by (with_reducible repeat (first | apply Kd.R_alloc | apply Kd.R_drewN | apply Kd.R_drew)); exact Kd.R_mono (Kd.R_far (p := ⟨gb123, 2, none⟩) (Kd.R_far (p := ⟨gb123, 1, none⟩) (Kd.R_far (p := ⟨gb123, 0, none⟩) (Kd.R_mono HO132.out (fun k_ hk => (⟨hk, hk.2⟩ : _ ∧ k_ ≠ gb123))) (fun _ hk => hk.2) (.int .i64 t128)) (fun _ hk => hk.2) (.int .i64 t129)) (fun _ hk => hk.2) (.slice Ao11 t130.length co11)) (fun _ hk => hk.1.1.1)), by repeat (first | (with_reducible first | exact HI0.out | apply IsS50.alloc | apply IsS50.drewN | apply IsS50.drew | apply IsS50.set_0 | apply IsS50.set_1 | apply IsS50.set_2 | refine IsS50.far ?_ NB0_123.out _) | exact HI0.out), by repeat (first | (with_reducible first | exact HB.out | apply below_alloc | apply pw_below_drewN | apply below_drew1 | refine below_set ?_ (IsS50.ge HI0.out) | refine below_set ?_ GE123.out) | exact HB.out), by repeat (first | (with_reducible first | exact HK.out | apply KeepBut.set_ | apply keep_drewN | apply keep_drew | apply keep_alloc | refine keep_far ?_ GW123.out _) | exact HK.out)⟩
 ·replace c3 := Bool.eq_false_iff.mpr c3
  subst c3
  have H1 : ((expr_parser_is.f k t125 t126 t127 49).bind fun bt133 => (if bt133.1 = true then ((simplify_Unit.f).bind fun bt137 => (some (bt137.1, bt137.2.1, bt137.2.2, bt133.2.1, bt133.2.2.1, wrap64 (bt133.2.2.2 + 1)))) else ((expr_parser_letter.f k bt133.2.1 bt133.2.2.1 bt133.2.2.2).bind fun bt142 => (if bt142.1 = true then (if 0 ≤ (wrap64 ((wrap64 (bt142.2.2.2 + 1)) - 1)) then (if (wrap64 ((wrap64 (bt142.2.2.2 + 1)) - 1)) < (bt142.2.1.size : Int) then (some (3, ((bt bt142.2.1 (wrap64 ((wrap64 (bt142.2.2.2 + 1)) - 1))) - 97) % 256, ([] : List (S24)), bt142.2.1, bt142.2.2.1, wrap64 (bt142.2.2.2 + 1))) else (none)) else (none)) else ((expr_parser_is.f k bt142.2.1 bt142.2.2.1 bt142.2.2.2 40).bind fun bt146 => (if bt146.1 = true then ((expr_parser_union.f k bt146.2.1 bt146.2.2.1 (wrap64 (bt146.2.2.2 + 1))).bind fun bt150 => ((expr_parser_is.f k bt150.2.2.2.1 bt150.2.2.2.2.1 bt150.2.2.2.2.2 41).bind fun bt159 => (if bt159.1 = true then (some (bt150.1, bt150.2.1, bt150.2.2.1, bt159.2.1, bt159.2.2.1, wrap64 (bt159.2.2.2 + 1))) else (none)))) else (none))))))) = some (r1, r2, r3, r4, r5, r6) := by rw [if_neg (show ¬ (false = true) by decide)] at H; exact H
  clear H
  have H := H1
  clear H1
  replace H := Option.bind_eq_some_iff.mp H
  obtain ⟨⟨t133, t134, t135, t136⟩, A120, H⟩ := H
  replace H : (if t133 = true then ((simplify_Unit.f).bind fun bt137 => (some (bt137.1, bt137.2.1, bt137.2.2, t134, t135, wrap64 (t136 + 1)))) else ((expr_parser_letter.f k t134 t135 t136).bind fun bt142 => (if bt142.1 = true then (if 0 ≤ (wrap64 ((wrap64 (bt142.2.2.2 + 1)) - 1)) then (if (wrap64 ((wrap64 (bt142.2.2.2 + 1)) - 1)) < (bt142.2.1.size : Int) then (some (3, ((bt bt142.2.1 (wrap64 ((wrap64 (bt142.2.2.2 + 1)) - 1))) - 97) % 256, ([] : List (S24)), bt142.2.1, bt142.2.2.1, wrap64 (bt142.2.2.2 + 1))) else (none)) else (none)) else ((expr_parser_is.f k bt142.2.1 bt142.2.2.1 bt142.2.2.2 40).bind fun bt146 => (if bt146.1 = true then ((expr_parser_union.f k bt146.2.1 bt146.2.2.1 (wrap64 (bt146.2.2.2 + 1))).bind fun bt150 => ((expr_parser_is.f k bt150.2.2.2.1 bt150.2.2.2.2.1 bt150.2.2.2.2.2 41).bind fun bt159 => (if bt159.1 = true then (some (bt150.1, bt150.2.1, bt150.2.2.1, bt159.2.1, bt159.2.2.1, wrap64 (bt159.2.2.2 + 1))) else (none)))) else (none)))))) = some (r1, r2, r3, r4, r5, r6) := H
  have A12 := Aside0.mk A120
  clear A120
  by_cases c13 : t133 = true
  ·subst c13
   have H1 : ((simplify_Unit.f).bind fun bt137 => (some (bt137.1, bt137.2.1, bt137.2.2, t134, t135, wrap64 (t136 + 1)))) = some (r1, r2, r3, r4, r5, r6) := by rw [if_pos rfl] at H; exact H
   clear H
   have H := H1
   clear H1
   replace H := Option.bind_eq_some_iff.mp H
   obtain ⟨⟨t137, t138, t139⟩, A140, H⟩ := H
   replace H : (some (t137, t138, t139, t134, t135, wrap64 (t136 + 1))) = some (r1, r2, r3, r4, r5, r6) := H
   have A14 := Aside0.mk A140
   clear A140
   simp only [Option.some.injEq, Prod.mk.injEq] at H
   obtain ⟨rfl, rfl, rfl, rfl, rfl, rfl⟩ := H
   go_enter Try.func102, Try.ntmps102
   go_wp2_with (first | ((with_reducible refine gate_dst (N := 2) rfl ?_); refine box_event ?hg (N := 2) ?hd (cs := #[.int .i64 0, .int .i64 0, .slice none 0 0]) (t := 24) ?hr ?_; (case hd => rfl); (case hg => rfl); (case hr => first | (go_simp; done) | (go_simp; rfl)); intro gb123 hg w15 hbox hb; have n0_ := Aside0.mk (IsS50.below (by repeat (first | (with_reducible first | exact HI0.out | apply IsS50.alloc | apply IsS50.drewN | apply IsS50.drew | apply IsS50.set_0 | apply IsS50.set_1 | apply IsS50.set_2) | exact HI0.out)) hb); have n1_ := Aside0.mk (KeepBut.trans (by repeat (first | (with_reducible first | exact HK.out | apply KeepBut.set_ | apply keep_drewN | apply keep_drew | apply keep_alloc) | exact HK.out)) (KeepBut.of_below hb g none) (.inl rfl)); have n2_ := Aside0.mk (below_step (by repeat (first | (with_reducible first | exact HB.out | apply below_alloc | apply pw_below_drewN | apply below_drew1 | refine below_set ?_ (IsS50.ge HI0.out)) | exact HB.out)) hb); have n3_ := Aside0.mk (hbox); have n4_ := Aside0.mk ((by rw [hg]; exact (keep_size (w := w) (g := g) (row := none) (by repeat (first | (with_reducible first | exact HK.out | apply KeepBut.set_ | apply keep_drewN | apply keep_drew | apply keep_alloc) | exact HK.out))) : w.heap.size ≤ gb123)); have n5_ := Aside0.mk ((Nat.le_trans HW0.out (by rw [hg]; exact (keep_size (w := w) (g := g) (row := none) (by repeat (first | (with_reducible first | exact HK.out | apply KeepBut.set_ | apply keep_drewN | apply keep_drew | apply keep_alloc) | exact HK.out))) : w.heap.size ≤ gb123) : w0.heap.size ≤ gb123)); have n6_ := Aside0.mk ((by rw [hg]; exact Nat.ne_of_lt (IsS50.lt (show IsS50 w0 _ g s0_0 s0_1 s0_2 from by repeat (first | (with_reducible first | exact HI0.out | apply IsS50.alloc | apply IsS50.drewN | apply IsS50.drew | apply IsS50.set_0 | apply IsS50.set_1 | apply IsS50.set_2) | exact HI0.out))) : g ≠ gb123)); have n7_ := Aside0.mk ((by rw [hg]; exact Nat.ne_of_gt (IsS50.lt (show IsS50 w0 _ g s0_0 s0_1 s0_2 from by repeat (first | (with_reducible first | exact HI0.out | apply IsS50.alloc | apply IsS50.drewN | apply IsS50.drew | apply IsS50.set_0 | apply IsS50.set_1 | apply IsS50.set_2) | exact HI0.out))) : gb123 ≠ g)); clear HI0; clear HK; clear HB; have HI0 := n0_; have HK := n1_; have HB := n2_; have BK123 := n3_; have GW123 := n4_; have GE123 := n5_; have NB0_123 := n6_; have NB123_0 := n7_; clear n0_ n1_ n2_ n3_ n4_ n5_ n6_ n7_; clear hb hbox hg) | ((with_reducible refine gate_callee (f := 83) rfl ?_); refine goesL_ (some 6) rfl rfl Try.func83 (by kernel_rfl) rfl #[.pointer (some ⟨g, 0, none⟩), .int .u8 48] rfl (by (try simp only [List.map_toArray, List.map_cons, List.map_nil]); first | done | rfl | (simp only [List.length_drop, List.length_take]; rfl)) ?_; (with_reducible refine (expr_parser_is.calls k g s0_0 s0_1 s0_2 48 false t125 t126 t127 w0 _ ?side1 ?side2 A2.out).mono ?_); (case side1 => repeat (first | (with_reducible first | exact HI0.out | apply IsS50.alloc | apply IsS50.drewN | apply IsS50.drew | apply IsS50.set_0 | apply IsS50.set_1 | apply IsS50.set_2 | refine IsS50.far ?_ NB0_123.out _) | exact HI0.out)); (case side2 => repeat (first | (with_reducible first | exact HB.out | apply below_alloc | apply pw_below_drewN | apply below_drew1 | refine below_set ?_ (IsS50.ge HI0.out) | refine below_set ?_ GE123.out) | exact HB.out)); rintro e w16 ⟨rfl, hi, hb, hk⟩; refine ⟨_, rfl, ?_⟩; have n0_ := Aside0.mk (KeepBut.blk hk (g' := gb123) (o := .cells #[.int .i64 0, .int .i64 0, .slice none 0 0] 24 (0, 0)) (by (with_reducible repeat (first | refine blk_drewN ?_ _ | refine blk_drew ?_ | refine blk_alloc ?_ _)); exact BK123.out) NB123_0.out (by simp)); have n1_ := Aside0.mk (KeepBut.trans (by repeat (first | (with_reducible first | exact HK.out | apply KeepBut.set_ | apply keep_drewN | apply keep_drew | apply keep_alloc | refine keep_far ?_ GW123.out _) | exact HK.out)) hk (.inl rfl)); have n2_ := Aside0.mk (hb); have n3_ := Aside0.mk (hi); clear BK123; clear HK; clear HB; clear HI0; have BK123 := n0_; have HK := n1_; have HB := n2_; have HI0 := n3_; clear n0_ n1_ n2_ n3_; (try clear hb); (try clear hb2); (try clear hk); (try clear hi)) | ((with_reducible refine gate_callee (f := 83) rfl ?_); refine goesL_ (some 17) rfl rfl Try.func83 (by kernel_rfl) rfl #[.pointer (some ⟨g, 0, none⟩), .int .u8 49] rfl (by (try simp only [List.map_toArray, List.map_cons, List.map_nil]); first | done | rfl | (simp only [List.length_drop, List.length_take]; rfl)) ?_; (with_reducible refine (expr_parser_is.calls k g t125 t126 t127 49 true t134 t135 t136 w0 _ ?side1 ?side2 A12.out).mono ?_); (case side1 => repeat (first | (with_reducible first | exact HI0.out | apply IsS50.alloc | apply IsS50.drewN | apply IsS50.drew | apply IsS50.set_0 | apply IsS50.set_1 | apply IsS50.set_2 | refine IsS50.far ?_ NB0_123.out _) | exact HI0.out)); (case side2 => repeat (first | (with_reducible first | exact HB.out | apply below_alloc | apply pw_below_drewN | apply below_drew1 | refine below_set ?_ (IsS50.ge HI0.out) | refine below_set ?_ GE123.out) | exact HB.out)); rintro e w17 ⟨rfl, hi, hb, hk⟩; refine ⟨_, rfl, ?_⟩; have n0_ := Aside0.mk (KeepBut.blk hk (g' := gb123) (o := .cells #[.int .i64 0, .int .i64 0, .slice none 0 0] 24 (0, 0)) (by (with_reducible repeat (first | refine blk_drewN ?_ _ | refine blk_drew ?_ | refine blk_alloc ?_ _)); exact BK123.out) NB123_0.out (by simp)); have n1_ := Aside0.mk (KeepBut.trans (by repeat (first | (with_reducible first | exact HK.out | apply KeepBut.set_ | apply keep_drewN | apply keep_drew | apply keep_alloc | refine keep_far ?_ GW123.out _) | exact HK.out)) hk (.inl rfl)); have n2_ := Aside0.mk (hb); have n3_ := Aside0.mk (hi); clear BK123; clear HK; clear HB; clear HI0; have BK123 := n0_; have HK := n1_; have HB := n2_; have HI0 := n3_; clear n0_ n1_ n2_ n3_; (try clear hb); (try clear hb2); (try clear hk); (try clear hi); obtain ⟨HGz18, hgz18⟩ := HI0.out; have hcz18_0 := cellS50_0 HGz18; have hcz18_1 := cellS50_1 HGz18; have hcz18_2 := cellS50_2 HGz18; have hfz18_0 := blk_frozen HGz18 0; have hfz18_1 := blk_frozen HGz18 1; have hfz18_2 := blk_frozen HGz18 2; clear HGz18 hgz18) | ((with_reducible refine gate_callee (f := 91) rfl ?_); (fail_if_success (have chk_ := HO141)); refine goesL_ (some 25) rfl rfl Try.func91 (by kernel_rfl) rfl #[] rfl (by (try simp only [List.map_toArray, List.map_cons, List.map_nil]); first | done | rfl | (simp only [List.length_drop, List.length_take]; rfl)) ?_; (with_reducible refine (simplify_Unit.calls  t137 t138 t139 _ A14.out).mono ?_); rintro e w19 ⟨v140, rfl, ho0, hb⟩; refine ⟨_, rfl, ?_⟩; have n0_ := Aside0.mk (Kd.R_lower (Kd.R_newB (Kd.R_newM (M := fun k_ => (w.heap.size ≤ k_)) ho0 (keep_size (w := w) (g := g) (row := none) (by repeat (first | (with_reducible first | exact HK.out | apply KeepBut.set_ | apply keep_drewN | apply keep_drew | apply keep_alloc | refine keep_far ?_ GW123.out _) | exact HK.out))) (fun k_ h_ => h_)) (g := gb123) (o := .cells #[.int .i64 0, .int .i64 0, .slice none 0 0] 24 (0, 0)) (by (with_reducible repeat (first | refine blk_drewN ?_ _ | refine blk_drew ?_ | refine blk_alloc ?_ _)); refine blk_far ?_ NB123_0.out _; (with_reducible repeat (first | refine blk_drewN ?_ _ | refine blk_drew ?_ | refine blk_alloc ?_ _)); exact BK123.out)) (keep_size (w := w) (g := g) (row := none) (by repeat (first | (with_reducible first | exact HK.out | apply KeepBut.set_ | apply keep_drewN | apply keep_drew | apply keep_alloc | refine keep_far ?_ GW123.out _) | exact HK.out)))); have n1_ := Aside0.mk (IsS50.below (show IsS50 w0 (w17.setCell ⟨g, 2, none⟩ (.int .i64 (wrap64 (t136 + 1)))) g t134 t135 (wrap64 (t136 + 1)) from by repeat (first | (with_reducible first | exact HI0.out | apply IsS50.alloc | apply IsS50.drewN | apply IsS50.drew | apply IsS50.set_0 | apply IsS50.set_1 | apply IsS50.set_2 | refine IsS50.far ?_ NB0_123.out _) | exact HI0.out)) hb); have n2_ := Aside0.mk (blk_below (g := gb123) (o := .cells #[.int .i64 0, .int .i64 0, .slice none 0 0] 24 (0, 0)) (by (with_reducible repeat (first | refine blk_drewN ?_ _ | refine blk_drew ?_ | refine blk_alloc ?_ _)); refine blk_far ?_ NB123_0.out _; (with_reducible repeat (first | refine blk_drewN ?_ _ | refine blk_drew ?_ | refine blk_alloc ?_ _)); exact BK123.out) hb); have n3_ := Aside0.mk (KeepBut.trans (by repeat (first | (with_reducible first | exact HK.out | apply KeepBut.set_ | apply keep_drewN | apply keep_drew | apply keep_alloc | refine keep_far ?_ GW123.out _) | exact HK.out)) (KeepBut.of_below hb g none) (.inl rfl)); have n4_ := Aside0.mk (below_step (by repeat (first | (with_reducible first | exact HB.out | apply below_alloc | apply pw_below_drewN | apply below_drew1 | refine below_set ?_ (IsS50.ge HI0.out) | refine below_set ?_ GE123.out) | exact HB.out)) hb); clear HI0; clear BK123; clear HK; clear HB; have HO141 := n0_; have HI0 := n1_; have BK123 := n2_; have HK := n3_; have HB := n4_; clear n0_ n1_ n2_ n3_ n4_; (try clear hb); (try clear hb2); (try clear hk); (try clear hi); (try clear ho0); have hnb20 := NB123_0.out; have hnc20 := NB0_123.out; have hcz21_0 : w19.cell? ⟨gb123, 0, none⟩ = some (.int .i64 0) := (blk_cell BK123.out 0).trans rfl; have hcz21_1 : w19.cell? ⟨gb123, 1, none⟩ = some (.int .i64 0) := (blk_cell BK123.out 1).trans rfl; have hcz21_2 : w19.cell? ⟨gb123, 2, none⟩ = some (.slice none 0 0) := (blk_cell BK123.out 2).trans rfl; have hfz21_0 := blk_frozen BK123.out 0; have hfz21_1 := blk_frozen BK123.out 1; have hfz21_2 := blk_frozen BK123.out 2; obtain ⟨Ao22, co22, eo22⟩ := Kd.R_slice HO141.out; subst eo22))
   refine bodyPost_ret (results_cell_row rfl _ _ gb123 24 #[.int .i64 t137, .int .i64 t138, .slice Ao22 t139.length co22] (0, 0) _ rfl (by (with_reducible repeat (first | refine blk_drewN ?_ _ | refine blk_drew ?_ | refine blk_alloc ?_ _)); refine blk_put (cs := #[.int .i64 t137, .int .i64 t138, .slice none 0 0]) ?_ 2 _ rfl; (with_reducible repeat (first | refine blk_drewN ?_ _ | refine blk_drew ?_ | refine blk_alloc ?_ _)); refine blk_put (cs := #[.int .i64 t137, .int .i64 0, .slice none 0 0]) ?_ 1 _ rfl; (with_reducible repeat (first | refine blk_drewN ?_ _ | refine blk_drew ?_ | refine blk_alloc ?_ _)); refine blk_put (cs := #[.int .i64 0, .int .i64 0, .slice none 0 0]) ?_ 0 _ rfl; (with_reducible repeat (first | refine blk_drewN ?_ _ | refine blk_drew ?_ | refine blk_alloc ?_ _)); exact BK123.out) Try.underlying24 rfl (by kernel_rfl)) rfl ?_
   exact ⟨_, by first | rfl | (simp [errW_none, errW_some] <;> rfl) | (simp [*, errW_none, errW_some] <;> rfl), Kd.R_V (by (with_reducible repeat (first | apply Kd.R_alloc | apply Kd.R_drewN | apply Kd.R_drew)); exact Kd.R_mono (Kd.R_far (p := ⟨gb123, 2, none⟩) (Kd.R_far (p := ⟨gb123, 1, none⟩) (Kd.R_far (p := ⟨gb123, 0, none⟩) (Kd.R_mono HO141.out (fun k_ hk => (⟨hk, hk.2⟩ : _ ∧ k_ ≠ gb123))) (fun _ hk => hk.2) (.int .i64 t137)) (fun _ hk => hk.2) (.int .i64 t138)) (fun _ hk => hk.2) (.slice Ao22 t139.length co22)) (fun _ hk => hk.1.1.1)), by repeat (first | (with_reducible first | exact HI0.out | apply IsS50.alloc | apply IsS50.drewN | apply IsS50.drew | apply IsS50.set_0 | apply IsS50.set_1 | apply IsS50.set_2 | refine IsS50.far ?_ NB0_123.out _) | exact HI0.out), by repeat (first | (with_reducible first | exact HB.out | apply below_alloc | apply pw_below_drewN | apply below_drew1 | refine below_set ?_ (IsS50.ge HI0.out) | refine below_set ?_ GE123.out) | exact HB.out), by repeat (first | (with_reducible first | exact HK.out | apply KeepBut.set_ | apply keep_drewN | apply keep_drew | apply keep_alloc | refine keep_far ?_ GW123.out _) | exact HK.out)⟩
  ·replace c13 := Bool.eq_false_iff.mpr c13
   subst c13
   have H1 : ((expr_parser_letter.f k t134 t135 t136).bind fun bt142 => (if bt142.1 = true then (if 0 ≤ (wrap64 ((wrap64 (bt142.2.2.2 + 1)) - 1)) then (if (wrap64 ((wrap64 (bt142.2.2.2 + 1)) - 1)) < (bt142.2.1.size : Int) then (some (3, ((bt bt142.2.1 (wrap64 ((wrap64 (bt142.2.2.2 + 1)) - 1))) - 97) % 256, ([] : List (S24)), bt142.2.1, bt142.2.2.1, wrap64 (bt142.2.2.2 + 1))) else (none)) else (none)) else ((expr_parser_is.f k bt142.2.1 bt142.2.2.1 bt142.2.2.2 40).bind fun bt146 => (if bt146.1 = true then ((expr_parser_union.f k bt146.2.1 bt146.2.2.1 (wrap64 (bt146.2.2.2 + 1))).bind fun bt150 => ((expr_parser_is.f k bt150.2.2.2.1 bt150.2.2.2.2.1 bt150.2.2.2.2.2 41).bind fun bt159 => (if bt159.1 = true then (some (bt150.1, bt150.2.1, bt150.2.2.1, bt159.2.1, bt159.2.2.1, wrap64 (bt159.2.2.2 + 1))) else (none)))) else (none))))) = some (r1, r2, r3, r4, r5, r6) := by rw [if_neg (show ¬ (false = true) by decide)] at H; exact H
   clear H
   have H := H1
   clear H1
   replace H := Option.bind_eq_some_iff.mp H
   obtain ⟨⟨t142, t143, t144, t145⟩, A230, H⟩ := H
   replace H : (if t142 = true then (if 0 ≤ (wrap64 ((wrap64 (t145 + 1)) - 1)) then (if (wrap64 ((wrap64 (t145 + 1)) - 1)) < (t143.size : Int) then (some (3, ((bt t143 (wrap64 ((wrap64 (t145 + 1)) - 1))) - 97) % 256, ([] : List (S24)), t143, t144, wrap64 (t145 + 1))) else (none)) else (none)) else ((expr_parser_is.f k t143 t144 t145 40).bind fun bt146 => (if bt146.1 = true then ((expr_parser_union.f k bt146.2.1 bt146.2.2.1 (wrap64 (bt146.2.2.2 + 1))).bind fun bt150 => ((expr_parser_is.f k bt150.2.2.2.1 bt150.2.2.2.2.1 bt150.2.2.2.2.2 41).bind fun bt159 => (if bt159.1 = true then (some (bt150.1, bt150.2.1, bt150.2.2.1, bt159.2.1, bt159.2.2.1, wrap64 (bt159.2.2.2 + 1))) else (none)))) else (none)))) = some (r1, r2, r3, r4, r5, r6) := H
   have A23 := Aside0.mk A230
   clear A230
   by_cases c24 : t142 = true
   ·subst c24
    have H1 : (if 0 ≤ (wrap64 ((wrap64 (t145 + 1)) - 1)) then (if (wrap64 ((wrap64 (t145 + 1)) - 1)) < (t143.size : Int) then (some (3, ((bt t143 (wrap64 ((wrap64 (t145 + 1)) - 1))) - 97) % 256, ([] : List (S24)), t143, t144, wrap64 (t145 + 1))) else (none)) else (none)) = some (r1, r2, r3, r4, r5, r6) := by rw [if_pos rfl] at H; exact H
    clear H
    have H := H1
    clear H1
    obtain ⟨ji25, hji25⟩ : ∃ j_ : Int, (wrap64 ((wrap64 (t145 + 1)) - 1)) = j_ := ⟨_, rfl⟩
    replace H : (if 0 ≤ (ji25) then (if (ji25) < (t143.size : Int) then (some (3, ((bt t143 (ji25)) - 97) % 256, ([] : List (S24)), t143, t144, wrap64 (t145 + 1))) else (none)) else (none)) = some (r1, r2, r3, r4, r5, r6) := by first | (rw [hji25] at H; exact H) | (simp only [hji25] at H ⊢; exact H)
    (try rw [hji25] at A2)
    (try rw [hji25] at A12)
    (try rw [hji25] at A23)
    have hji25w : (IntKind.i64.wrap ((wrap64 (t145 + 1)) - 1)) = ji25 := (i64_w _).trans hji25
    by_cases c26 : 0 ≤ (ji25)
    ·rw [if_pos c26] at H
     have c26b0 : decide (0 ≤ (ji25)) = true := decide_eq_true c26
     clear c26
     by_cases c27 : (ji25) < (t143.size : Int)
     ·rw [if_pos c27] at H
      have c27b0 : decide ((ji25) < (t143.size : Int)) = true := decide_eq_true c27
      clear c27
      simp only [Option.some.injEq, Prod.mk.injEq] at H
      obtain ⟨rfl, rfl, rfl, rfl, rfl, rfl⟩ := H
      go_enter Try.func102, Try.ntmps102
      go_wp2_with (first | ((with_reducible refine gate_dst (N := 2) rfl ?_); refine box_event ?hg (N := 2) ?hd (cs := #[.int .i64 0, .int .i64 0, .slice none 0 0]) (t := 24) ?hr ?_; (case hd => rfl); (case hg => rfl); (case hr => first | (go_simp; done) | (go_simp; rfl)); intro gb123 hg w29 hbox hb; have n0_ := Aside0.mk (IsS50.below (by repeat (first | (with_reducible first | exact HI0.out | apply IsS50.alloc | apply IsS50.drewN | apply IsS50.drew | apply IsS50.set_0 | apply IsS50.set_1 | apply IsS50.set_2) | exact HI0.out)) hb); have n1_ := Aside0.mk (KeepBut.trans (by repeat (first | (with_reducible first | exact HK.out | apply KeepBut.set_ | apply keep_drewN | apply keep_drew | apply keep_alloc) | exact HK.out)) (KeepBut.of_below hb g none) (.inl rfl)); have n2_ := Aside0.mk (below_step (by repeat (first | (with_reducible first | exact HB.out | apply below_alloc | apply pw_below_drewN | apply below_drew1 | refine below_set ?_ (IsS50.ge HI0.out)) | exact HB.out)) hb); have n3_ := Aside0.mk (hbox); have n4_ := Aside0.mk ((by rw [hg]; exact (keep_size (w := w) (g := g) (row := none) (by repeat (first | (with_reducible first | exact HK.out | apply KeepBut.set_ | apply keep_drewN | apply keep_drew | apply keep_alloc) | exact HK.out))) : w.heap.size ≤ gb123)); have n5_ := Aside0.mk ((Nat.le_trans HW0.out (by rw [hg]; exact (keep_size (w := w) (g := g) (row := none) (by repeat (first | (with_reducible first | exact HK.out | apply KeepBut.set_ | apply keep_drewN | apply keep_drew | apply keep_alloc) | exact HK.out))) : w.heap.size ≤ gb123) : w0.heap.size ≤ gb123)); have n6_ := Aside0.mk ((by rw [hg]; exact Nat.ne_of_lt (IsS50.lt (show IsS50 w0 _ g s0_0 s0_1 s0_2 from by repeat (first | (with_reducible first | exact HI0.out | apply IsS50.alloc | apply IsS50.drewN | apply IsS50.drew | apply IsS50.set_0 | apply IsS50.set_1 | apply IsS50.set_2) | exact HI0.out))) : g ≠ gb123)); have n7_ := Aside0.mk ((by rw [hg]; exact Nat.ne_of_gt (IsS50.lt (show IsS50 w0 _ g s0_0 s0_1 s0_2 from by repeat (first | (with_reducible first | exact HI0.out | apply IsS50.alloc | apply IsS50.drewN | apply IsS50.drew | apply IsS50.set_0 | apply IsS50.set_1 | apply IsS50.set_2) | exact HI0.out))) : gb123 ≠ g)); clear HI0; clear HK; clear HB; have HI0 := n0_; have HK := n1_; have HB := n2_; have BK123 := n3_; have GW123 := n4_; have GE123 := n5_; have NB0_123 := n6_; have NB123_0 := n7_; clear n0_ n1_ n2_ n3_ n4_ n5_ n6_ n7_; clear hb hbox hg) | ((with_reducible refine gate_callee (f := 83) rfl ?_); refine goesL_ (some 6) rfl rfl Try.func83 (by kernel_rfl) rfl #[.pointer (some ⟨g, 0, none⟩), .int .u8 48] rfl (by (try simp only [List.map_toArray, List.map_cons, List.map_nil]); first | done | rfl | (simp only [List.length_drop, List.length_take]; rfl)) ?_; (with_reducible refine (expr_parser_is.calls k g s0_0 s0_1 s0_2 48 false t125 t126 t127 w0 _ ?side1 ?side2 A2.out).mono ?_); (case side1 => repeat (first | (with_reducible first | exact HI0.out | apply IsS50.alloc | apply IsS50.drewN | apply IsS50.drew | apply IsS50.set_0 | apply IsS50.set_1 | apply IsS50.set_2 | refine IsS50.far ?_ NB0_123.out _) | exact HI0.out)); (case side2 => repeat (first | (with_reducible first | exact HB.out | apply below_alloc | apply pw_below_drewN | apply below_drew1 | refine below_set ?_ (IsS50.ge HI0.out) | refine below_set ?_ GE123.out) | exact HB.out)); rintro e w30 ⟨rfl, hi, hb, hk⟩; refine ⟨_, rfl, ?_⟩; have n0_ := Aside0.mk (KeepBut.blk hk (g' := gb123) (o := .cells #[.int .i64 0, .int .i64 0, .slice none 0 0] 24 (0, 0)) (by (with_reducible repeat (first | refine blk_drewN ?_ _ | refine blk_drew ?_ | refine blk_alloc ?_ _)); exact BK123.out) NB123_0.out (by simp)); have n1_ := Aside0.mk (KeepBut.trans (by repeat (first | (with_reducible first | exact HK.out | apply KeepBut.set_ | apply keep_drewN | apply keep_drew | apply keep_alloc | refine keep_far ?_ GW123.out _) | exact HK.out)) hk (.inl rfl)); have n2_ := Aside0.mk (hb); have n3_ := Aside0.mk (hi); clear BK123; clear HK; clear HB; clear HI0; have BK123 := n0_; have HK := n1_; have HB := n2_; have HI0 := n3_; clear n0_ n1_ n2_ n3_; (try clear hb); (try clear hb2); (try clear hk); (try clear hi)) | ((with_reducible refine gate_callee (f := 83) rfl ?_); refine goesL_ (some 17) rfl rfl Try.func83 (by kernel_rfl) rfl #[.pointer (some ⟨g, 0, none⟩), .int .u8 49] rfl (by (try simp only [List.map_toArray, List.map_cons, List.map_nil]); first | done | rfl | (simp only [List.length_drop, List.length_take]; rfl)) ?_; (with_reducible refine (expr_parser_is.calls k g t125 t126 t127 49 false t134 t135 t136 w0 _ ?side1 ?side2 A12.out).mono ?_); (case side1 => repeat (first | (with_reducible first | exact HI0.out | apply IsS50.alloc | apply IsS50.drewN | apply IsS50.drew | apply IsS50.set_0 | apply IsS50.set_1 | apply IsS50.set_2 | refine IsS50.far ?_ NB0_123.out _) | exact HI0.out)); (case side2 => repeat (first | (with_reducible first | exact HB.out | apply below_alloc | apply pw_below_drewN | apply below_drew1 | refine below_set ?_ (IsS50.ge HI0.out) | refine below_set ?_ GE123.out) | exact HB.out)); rintro e w31 ⟨rfl, hi, hb, hk⟩; refine ⟨_, rfl, ?_⟩; have n0_ := Aside0.mk (KeepBut.blk hk (g' := gb123) (o := .cells #[.int .i64 0, .int .i64 0, .slice none 0 0] 24 (0, 0)) (by (with_reducible repeat (first | refine blk_drewN ?_ _ | refine blk_drew ?_ | refine blk_alloc ?_ _)); exact BK123.out) NB123_0.out (by simp)); have n1_ := Aside0.mk (KeepBut.trans (by repeat (first | (with_reducible first | exact HK.out | apply KeepBut.set_ | apply keep_drewN | apply keep_drew | apply keep_alloc | refine keep_far ?_ GW123.out _) | exact HK.out)) hk (.inl rfl)); have n2_ := Aside0.mk (hb); have n3_ := Aside0.mk (hi); clear BK123; clear HK; clear HB; clear HI0; have BK123 := n0_; have HK := n1_; have HB := n2_; have HI0 := n3_; clear n0_ n1_ n2_ n3_; (try clear hb); (try clear hb2); (try clear hk); (try clear hi)) | ((with_reducible refine gate_callee (f := 97) rfl ?_); refine goesL_ (some 28) rfl rfl Try.func97 (by kernel_rfl) rfl #[.pointer (some ⟨g, 0, none⟩)] rfl (by (try simp only [List.map_toArray, List.map_cons, List.map_nil]); first | done | rfl | (simp only [List.length_drop, List.length_take]; rfl)) ?_; (with_reducible refine (expr_parser_letter.calls k g t134 t135 t136 true t143 t144 t145 w0 _ ?side1 ?side2 A23.out).mono ?_); (case side1 => repeat (first | (with_reducible first | exact HI0.out | apply IsS50.alloc | apply IsS50.drewN | apply IsS50.drew | apply IsS50.set_0 | apply IsS50.set_1 | apply IsS50.set_2 | refine IsS50.far ?_ NB0_123.out _) | exact HI0.out)); (case side2 => repeat (first | (with_reducible first | exact HB.out | apply below_alloc | apply pw_below_drewN | apply below_drew1 | refine below_set ?_ (IsS50.ge HI0.out) | refine below_set ?_ GE123.out) | exact HB.out)); rintro e w32 ⟨rfl, hi, hb, hk⟩; refine ⟨_, rfl, ?_⟩; have n0_ := Aside0.mk (KeepBut.blk hk (g' := gb123) (o := .cells #[.int .i64 0, .int .i64 0, .slice none 0 0] 24 (0, 0)) (by (with_reducible repeat (first | refine blk_drewN ?_ _ | refine blk_drew ?_ | refine blk_alloc ?_ _)); exact BK123.out) NB123_0.out (by simp)); have n1_ := Aside0.mk (KeepBut.trans (by repeat (first | (with_reducible first | exact HK.out | apply KeepBut.set_ | apply keep_drewN | apply keep_drew | apply keep_alloc | refine keep_far ?_ GW123.out _) | exact HK.out)) hk (.inl rfl)); have n2_ := Aside0.mk (hb); have n3_ := Aside0.mk (hi); clear BK123; clear HK; clear HB; clear HI0; have BK123 := n0_; have HK := n1_; have HB := n2_; have HI0 := n3_; clear n0_ n1_ n2_ n3_; (try clear hb); (try clear hb2); (try clear hk); (try clear hi); obtain ⟨HGz33, hgz33⟩ := HI0.out; have hcz33_0 := cellS50_0 HGz33; have hcz33_1 := cellS50_1 HGz33; have hcz33_2 := cellS50_2 HGz33; have hfz33_0 := blk_frozen HGz33 0; have hfz33_1 := blk_frozen HGz33 1; have hfz33_2 := blk_frozen HGz33 2; clear HGz33 hgz33; have p28 : 0 ≤ ((ji25) : Int) := of_decide_eq_true (by first | (with_reducible assumption) | assumption); have q28 : (ji25) < (t143.size : Int) := of_decide_eq_true (by first | (with_reducible assumption) | assumption); have hx28 := bt_at t143 (ji25); replace p28 := eq_true p28; replace q28 := eq_true q28; have hnb34 := NB123_0.out; have hnc34 := NB0_123.out; have hcz35_0 : w32.cell? ⟨gb123, 0, none⟩ = some (.int .i64 0) := (blk_cell BK123.out 0).trans rfl; have hcz35_1 : w32.cell? ⟨gb123, 1, none⟩ = some (.int .i64 0) := (blk_cell BK123.out 1).trans rfl; have hcz35_2 : w32.cell? ⟨gb123, 2, none⟩ = some (.slice none 0 0) := (blk_cell BK123.out 2).trans rfl; have hfz35_0 := blk_frozen BK123.out 0; have hfz35_1 := blk_frozen BK123.out 1; have hfz35_2 := blk_frozen BK123.out 2))
      have hs3 := Aside0.mk (IsS50.set_2 HI0.out (wrap64 (t145 + 1)))
      have hb3 : Aside0 ((w32.setCell ⟨g, 2, none⟩ (.int .i64 (wrap64 (t145 + 1)))).heap[gb123]? = some (.cells #[.int .i64 0, .int .i64 0, .slice none 0 0] 24 (0, 0))) := ⟨by refine blk_far ?_ NB123_0.out _; exact BK123.out⟩
      have hk3 : Aside0 (KeepBut w (w32.setCell ⟨g, 2, none⟩ (.int .i64 (wrap64 (t145 + 1)))) g none) := ⟨by apply KeepBut.set_; exact HK.out⟩
      have hB3 : Aside0 (Below w0.heap.size w0 (w32.setCell ⟨g, 2, none⟩ (.int .i64 (wrap64 (t145 + 1))))) := ⟨by refine below_set ?_ (IsS50.ge HI0.out); exact HB.out⟩
      have e30 := is50_0 hs3.out
      have e32 := is50_2 hs3.out
      generalize w32.setCell ⟨g, 2, none⟩ (.int .i64 (wrap64 (t145 + 1))) = w33 at hs3 hb3 hk3 hB3 e30 e32 ⊢
      clear BK123 HK HB HI0 hcz33_0 hcz33_1 hcz33_2 hfz33_0 hfz33_1 hfz33_2 hcz35_0 hcz35_1 hcz35_2 hfz35_0 hfz35_1 hfz35_2
      have BK123 := hb3; have HK := hk3; have HB := hB3; have HI0 := hs3
      clear hb3 hk3 hB3 hs3
      have hcz35_0 : w33.cell? ⟨gb123, 0, none⟩ = some (.int .i64 0) := (blk_cell BK123.out 0).trans rfl
      have hcz35_1 : w33.cell? ⟨gb123, 1, none⟩ = some (.int .i64 0) := (blk_cell BK123.out 1).trans rfl
      have hcz35_2 : w33.cell? ⟨gb123, 2, none⟩ = some (.slice none 0 0) := (blk_cell BK123.out 2).trans rfl
      have hfz35_0 := blk_frozen BK123.out 0
      have hfz35_1 := blk_frozen BK123.out 1
      have hfz35_2 := blk_frozen BK123.out 2
      first | go_still_tail 13, (by kernel_rfl) | fail "tail"
      change wpList _ _ _ _ _ w33.drew
      go_wp2
      rw [show wrap64 ((bt t143 (ji25) - 97) % 256) = (bt t143 (ji25) - 97) % 256 from by simp only [wrap64]; omega]
      refine bodyPost_ret (results_cell_row rfl _ _ gb123 24 #[.int .i64 3, .int .i64 (((bt t143 (ji25)) - 97) % 256), .slice none 0 0] (0, 0) _ rfl (by (with_reducible repeat (first | refine blk_drewN ?_ _ | refine blk_drew ?_ | refine blk_alloc ?_ _)); refine blk_put (cs := #[.int .i64 3, .int .i64 (((bt t143 (ji25)) - 97) % 256), .slice none 0 0]) ?_ 2 _ rfl; (with_reducible repeat (first | refine blk_drewN ?_ _ | refine blk_drew ?_ | refine blk_alloc ?_ _)); refine blk_put (cs := #[.int .i64 3, .int .i64 0, .slice none 0 0]) ?_ 1 _ rfl; (with_reducible repeat (first | refine blk_drewN ?_ _ | refine blk_drew ?_ | refine blk_alloc ?_ _)); refine blk_put (cs := #[.int .i64 0, .int .i64 0, .slice none 0 0]) ?_ 0 _ rfl; (with_reducible repeat (first | refine blk_drewN ?_ _ | refine blk_drew ?_ | refine blk_alloc ?_ _)); exact BK123.out) Try.underlying24 rfl (by kernel_rfl)) rfl ?_
      exact ⟨_, by first | rfl | (simp [errW_none, errW_some] <;> rfl) | (simp only [← hji25]; first | rfl | (simp [errW_none, errW_some] <;> rfl)) | (simp [*, errW_none, errW_some] <;> rfl), Kd.V_nil _ _ _ _ _, by repeat (first | (with_reducible first | exact HI0.out | apply IsS50.alloc | apply IsS50.drewN | apply IsS50.drew | apply IsS50.set_0 | apply IsS50.set_1 | apply IsS50.set_2 | refine IsS50.far ?_ NB0_123.out _) | exact HI0.out), by repeat (first | (with_reducible first | exact HB.out | apply below_alloc | apply pw_below_drewN | apply below_drew1 | refine below_set ?_ (IsS50.ge HI0.out) | refine below_set ?_ GE123.out) | exact HB.out), by repeat (first | (with_reducible first | exact HK.out | apply KeepBut.set_ | apply keep_drewN | apply keep_drew | apply keep_alloc | refine keep_far ?_ GW123.out _) | exact HK.out)⟩
     ·rw [if_neg c27] at H
      exact absurd H (by simp)
    ·rw [if_neg c26] at H
     exact absurd H (by simp)
   ·replace c24 := Bool.eq_false_iff.mpr c24
    subst c24
    have H1 : ((expr_parser_is.f k t143 t144 t145 40).bind fun bt146 => (if bt146.1 = true then ((expr_parser_union.f k bt146.2.1 bt146.2.2.1 (wrap64 (bt146.2.2.2 + 1))).bind fun bt150 => ((expr_parser_is.f k bt150.2.2.2.1 bt150.2.2.2.2.1 bt150.2.2.2.2.2 41).bind fun bt159 => (if bt159.1 = true then (some (bt150.1, bt150.2.1, bt150.2.2.1, bt159.2.1, bt159.2.2.1, wrap64 (bt159.2.2.2 + 1))) else (none)))) else (none))) = some (r1, r2, r3, r4, r5, r6) := by rw [if_neg (show ¬ (false = true) by decide)] at H; exact H
    clear H
    have H := H1
    clear H1
    replace H := Option.bind_eq_some_iff.mp H
    obtain ⟨⟨t146, t147, t148, t149⟩, A360, H⟩ := H
    replace H : (if t146 = true then ((expr_parser_union.f k t147 t148 (wrap64 (t149 + 1))).bind fun bt150 => ((expr_parser_is.f k bt150.2.2.2.1 bt150.2.2.2.2.1 bt150.2.2.2.2.2 41).bind fun bt159 => (if bt159.1 = true then (some (bt150.1, bt150.2.1, bt150.2.2.1, bt159.2.1, bt159.2.2.1, wrap64 (bt159.2.2.2 + 1))) else (none)))) else (none)) = some (r1, r2, r3, r4, r5, r6) := H
    have A36 := Aside0.mk A360
    clear A360
    by_cases c37 : t146 = true
    ·subst c37
     have H1 : ((expr_parser_union.f k t147 t148 (wrap64 (t149 + 1))).bind fun bt150 => ((expr_parser_is.f k bt150.2.2.2.1 bt150.2.2.2.2.1 bt150.2.2.2.2.2 41).bind fun bt159 => (if bt159.1 = true then (some (bt150.1, bt150.2.1, bt150.2.2.1, bt159.2.1, bt159.2.2.1, wrap64 (bt159.2.2.2 + 1))) else (none)))) = some (r1, r2, r3, r4, r5, r6) := by rw [if_pos rfl] at H; exact H
     clear H
     have H := H1
     clear H1
     replace H := Option.bind_eq_some_iff.mp H
     obtain ⟨⟨t150, t151, t152, t155, t156, t157⟩, A380, H⟩ := H
     replace H : ((expr_parser_is.f k t155 t156 t157 41).bind fun bt159 => (if bt159.1 = true then (some (t150, t151, t152, bt159.2.1, bt159.2.2.1, wrap64 (bt159.2.2.2 + 1))) else (none))) = some (r1, r2, r3, r4, r5, r6) := H
     have A38 := Aside0.mk A380
     clear A380
     replace H := Option.bind_eq_some_iff.mp H
     obtain ⟨⟨t159, t160, t161, t162⟩, A390, H⟩ := H
     replace H : (if t159 = true then (some (t150, t151, t152, t160, t161, wrap64 (t162 + 1))) else (none)) = some (r1, r2, r3, r4, r5, r6) := H
     have A39 := Aside0.mk A390
     clear A390
     by_cases c40 : t159 = true
     ·subst c40
      have H1 : (some (t150, t151, t152, t160, t161, wrap64 (t162 + 1))) = some (r1, r2, r3, r4, r5, r6) := by rw [if_pos rfl] at H; exact H
      clear H
      have H := H1
      clear H1
      simp only [Option.some.injEq, Prod.mk.injEq] at H
      obtain ⟨rfl, rfl, rfl, rfl, rfl, rfl⟩ := H
      go_enter Try.func102, Try.ntmps102
      go_wp2_with (first | ((with_reducible refine gate_dst (N := 2) rfl ?_); refine box_event ?hg (N := 2) ?hd (cs := #[.int .i64 0, .int .i64 0, .slice none 0 0]) (t := 24) ?hr ?_; (case hd => rfl); (case hg => rfl); (case hr => first | (go_simp; done) | (go_simp; rfl)); intro gb123 hg w41 hbox hb; have n0_ := Aside0.mk (IsS50.below (by repeat (first | (with_reducible first | exact HI0.out | apply IsS50.alloc | apply IsS50.drewN | apply IsS50.drew | apply IsS50.set_0 | apply IsS50.set_1 | apply IsS50.set_2) | exact HI0.out)) hb); have n1_ := Aside0.mk (KeepBut.trans (by repeat (first | (with_reducible first | exact HK.out | apply KeepBut.set_ | apply keep_drewN | apply keep_drew | apply keep_alloc) | exact HK.out)) (KeepBut.of_below hb g none) (.inl rfl)); have n2_ := Aside0.mk (below_step (by repeat (first | (with_reducible first | exact HB.out | apply below_alloc | apply pw_below_drewN | apply below_drew1 | refine below_set ?_ (IsS50.ge HI0.out)) | exact HB.out)) hb); have n3_ := Aside0.mk (hbox); have n4_ := Aside0.mk ((by rw [hg]; exact (keep_size (w := w) (g := g) (row := none) (by repeat (first | (with_reducible first | exact HK.out | apply KeepBut.set_ | apply keep_drewN | apply keep_drew | apply keep_alloc) | exact HK.out))) : w.heap.size ≤ gb123)); have n5_ := Aside0.mk ((Nat.le_trans HW0.out (by rw [hg]; exact (keep_size (w := w) (g := g) (row := none) (by repeat (first | (with_reducible first | exact HK.out | apply KeepBut.set_ | apply keep_drewN | apply keep_drew | apply keep_alloc) | exact HK.out))) : w.heap.size ≤ gb123) : w0.heap.size ≤ gb123)); have n6_ := Aside0.mk ((by rw [hg]; exact Nat.ne_of_lt (IsS50.lt (show IsS50 w0 _ g s0_0 s0_1 s0_2 from by repeat (first | (with_reducible first | exact HI0.out | apply IsS50.alloc | apply IsS50.drewN | apply IsS50.drew | apply IsS50.set_0 | apply IsS50.set_1 | apply IsS50.set_2) | exact HI0.out))) : g ≠ gb123)); have n7_ := Aside0.mk ((by rw [hg]; exact Nat.ne_of_gt (IsS50.lt (show IsS50 w0 _ g s0_0 s0_1 s0_2 from by repeat (first | (with_reducible first | exact HI0.out | apply IsS50.alloc | apply IsS50.drewN | apply IsS50.drew | apply IsS50.set_0 | apply IsS50.set_1 | apply IsS50.set_2) | exact HI0.out))) : gb123 ≠ g)); clear HI0; clear HK; clear HB; have HI0 := n0_; have HK := n1_; have HB := n2_; have BK123 := n3_; have GW123 := n4_; have GE123 := n5_; have NB0_123 := n6_; have NB123_0 := n7_; clear n0_ n1_ n2_ n3_ n4_ n5_ n6_ n7_; clear hb hbox hg) | ((with_reducible refine gate_callee (f := 83) rfl ?_); refine goesL_ (some 6) rfl rfl Try.func83 (by kernel_rfl) rfl #[.pointer (some ⟨g, 0, none⟩), .int .u8 48] rfl (by (try simp only [List.map_toArray, List.map_cons, List.map_nil]); first | done | rfl | (simp only [List.length_drop, List.length_take]; rfl)) ?_; (with_reducible refine (expr_parser_is.calls k g s0_0 s0_1 s0_2 48 false t125 t126 t127 w0 _ ?side1 ?side2 A2.out).mono ?_); (case side1 => repeat (first | (with_reducible first | exact HI0.out | apply IsS50.alloc | apply IsS50.drewN | apply IsS50.drew | apply IsS50.set_0 | apply IsS50.set_1 | apply IsS50.set_2 | refine IsS50.far ?_ NB0_123.out _) | exact HI0.out)); (case side2 => repeat (first | (with_reducible first | exact HB.out | apply below_alloc | apply pw_below_drewN | apply below_drew1 | refine below_set ?_ (IsS50.ge HI0.out) | refine below_set ?_ GE123.out) | exact HB.out)); rintro e w42 ⟨rfl, hi, hb, hk⟩; refine ⟨_, rfl, ?_⟩; have n0_ := Aside0.mk (KeepBut.blk hk (g' := gb123) (o := .cells #[.int .i64 0, .int .i64 0, .slice none 0 0] 24 (0, 0)) (by (with_reducible repeat (first | refine blk_drewN ?_ _ | refine blk_drew ?_ | refine blk_alloc ?_ _)); exact BK123.out) NB123_0.out (by simp)); have n1_ := Aside0.mk (KeepBut.trans (by repeat (first | (with_reducible first | exact HK.out | apply KeepBut.set_ | apply keep_drewN | apply keep_drew | apply keep_alloc | refine keep_far ?_ GW123.out _) | exact HK.out)) hk (.inl rfl)); have n2_ := Aside0.mk (hb); have n3_ := Aside0.mk (hi); clear BK123; clear HK; clear HB; clear HI0; have BK123 := n0_; have HK := n1_; have HB := n2_; have HI0 := n3_; clear n0_ n1_ n2_ n3_; (try clear hb); (try clear hb2); (try clear hk); (try clear hi)) | ((with_reducible refine gate_callee (f := 83) rfl ?_); refine goesL_ (some 17) rfl rfl Try.func83 (by kernel_rfl) rfl #[.pointer (some ⟨g, 0, none⟩), .int .u8 49] rfl (by (try simp only [List.map_toArray, List.map_cons, List.map_nil]); first | done | rfl | (simp only [List.length_drop, List.length_take]; rfl)) ?_; (with_reducible refine (expr_parser_is.calls k g t125 t126 t127 49 false t134 t135 t136 w0 _ ?side1 ?side2 A12.out).mono ?_); (case side1 => repeat (first | (with_reducible first | exact HI0.out | apply IsS50.alloc | apply IsS50.drewN | apply IsS50.drew | apply IsS50.set_0 | apply IsS50.set_1 | apply IsS50.set_2 | refine IsS50.far ?_ NB0_123.out _) | exact HI0.out)); (case side2 => repeat (first | (with_reducible first | exact HB.out | apply below_alloc | apply pw_below_drewN | apply below_drew1 | refine below_set ?_ (IsS50.ge HI0.out) | refine below_set ?_ GE123.out) | exact HB.out)); rintro e w43 ⟨rfl, hi, hb, hk⟩; refine ⟨_, rfl, ?_⟩; have n0_ := Aside0.mk (KeepBut.blk hk (g' := gb123) (o := .cells #[.int .i64 0, .int .i64 0, .slice none 0 0] 24 (0, 0)) (by (with_reducible repeat (first | refine blk_drewN ?_ _ | refine blk_drew ?_ | refine blk_alloc ?_ _)); exact BK123.out) NB123_0.out (by simp)); have n1_ := Aside0.mk (KeepBut.trans (by repeat (first | (with_reducible first | exact HK.out | apply KeepBut.set_ | apply keep_drewN | apply keep_drew | apply keep_alloc | refine keep_far ?_ GW123.out _) | exact HK.out)) hk (.inl rfl)); have n2_ := Aside0.mk (hb); have n3_ := Aside0.mk (hi); clear BK123; clear HK; clear HB; clear HI0; have BK123 := n0_; have HK := n1_; have HB := n2_; have HI0 := n3_; clear n0_ n1_ n2_ n3_; (try clear hb); (try clear hb2); (try clear hk); (try clear hi)) | ((with_reducible refine gate_callee (f := 97) rfl ?_); refine goesL_ (some 28) rfl rfl Try.func97 (by kernel_rfl) rfl #[.pointer (some ⟨g, 0, none⟩)] rfl (by (try simp only [List.map_toArray, List.map_cons, List.map_nil]); first | done | rfl | (simp only [List.length_drop, List.length_take]; rfl)) ?_; (with_reducible refine (expr_parser_letter.calls k g t134 t135 t136 false t143 t144 t145 w0 _ ?side1 ?side2 A23.out).mono ?_); (case side1 => repeat (first | (with_reducible first | exact HI0.out | apply IsS50.alloc | apply IsS50.drewN | apply IsS50.drew | apply IsS50.set_0 | apply IsS50.set_1 | apply IsS50.set_2 | refine IsS50.far ?_ NB0_123.out _) | exact HI0.out)); (case side2 => repeat (first | (with_reducible first | exact HB.out | apply below_alloc | apply pw_below_drewN | apply below_drew1 | refine below_set ?_ (IsS50.ge HI0.out) | refine below_set ?_ GE123.out) | exact HB.out)); rintro e w44 ⟨rfl, hi, hb, hk⟩; refine ⟨_, rfl, ?_⟩; have n0_ := Aside0.mk (KeepBut.blk hk (g' := gb123) (o := .cells #[.int .i64 0, .int .i64 0, .slice none 0 0] 24 (0, 0)) (by (with_reducible repeat (first | refine blk_drewN ?_ _ | refine blk_drew ?_ | refine blk_alloc ?_ _)); exact BK123.out) NB123_0.out (by simp)); have n1_ := Aside0.mk (KeepBut.trans (by repeat (first | (with_reducible first | exact HK.out | apply KeepBut.set_ | apply keep_drewN | apply keep_drew | apply keep_alloc | refine keep_far ?_ GW123.out _) | exact HK.out)) hk (.inl rfl)); have n2_ := Aside0.mk (hb); have n3_ := Aside0.mk (hi); clear BK123; clear HK; clear HB; clear HI0; have BK123 := n0_; have HK := n1_; have HB := n2_; have HI0 := n3_; clear n0_ n1_ n2_ n3_; (try clear hb); (try clear hb2); (try clear hk); (try clear hi)) | ((with_reducible refine gate_callee (f := 83) rfl ?_); refine goesL_ (some 51) rfl rfl Try.func83 (by kernel_rfl) rfl #[.pointer (some ⟨g, 0, none⟩), .int .u8 40] rfl (by (try simp only [List.map_toArray, List.map_cons, List.map_nil]); first | done | rfl | (simp only [List.length_drop, List.length_take]; rfl)) ?_; (with_reducible refine (expr_parser_is.calls k g t143 t144 t145 40 true t147 t148 t149 w0 _ ?side1 ?side2 A36.out).mono ?_); (case side1 => repeat (first | (with_reducible first | exact HI0.out | apply IsS50.alloc | apply IsS50.drewN | apply IsS50.drew | apply IsS50.set_0 | apply IsS50.set_1 | apply IsS50.set_2 | refine IsS50.far ?_ NB0_123.out _) | exact HI0.out)); (case side2 => repeat (first | (with_reducible first | exact HB.out | apply below_alloc | apply pw_below_drewN | apply below_drew1 | refine below_set ?_ (IsS50.ge HI0.out) | refine below_set ?_ GE123.out) | exact HB.out)); rintro e w45 ⟨rfl, hi, hb, hk⟩; refine ⟨_, rfl, ?_⟩; have n0_ := Aside0.mk (KeepBut.blk hk (g' := gb123) (o := .cells #[.int .i64 0, .int .i64 0, .slice none 0 0] 24 (0, 0)) (by (with_reducible repeat (first | refine blk_drewN ?_ _ | refine blk_drew ?_ | refine blk_alloc ?_ _)); exact BK123.out) NB123_0.out (by simp)); have n1_ := Aside0.mk (KeepBut.trans (by repeat (first | (with_reducible first | exact HK.out | apply KeepBut.set_ | apply keep_drewN | apply keep_drew | apply keep_alloc | refine keep_far ?_ GW123.out _) | exact HK.out)) hk (.inl rfl)); have n2_ := Aside0.mk (hb); have n3_ := Aside0.mk (hi); clear BK123; clear HK; clear HB; clear HI0; have BK123 := n0_; have HK := n1_; have HB := n2_; have HI0 := n3_; clear n0_ n1_ n2_ n3_; (try clear hb); (try clear hb2); (try clear hk); (try clear hi); obtain ⟨HGz46, hgz46⟩ := HI0.out; have hcz46_0 := cellS50_0 HGz46; have hcz46_1 := cellS50_1 HGz46; have hcz46_2 := cellS50_2 HGz46; have hfz46_0 := blk_frozen HGz46 0; have hfz46_1 := blk_frozen HGz46 1; have hfz46_2 := blk_frozen HGz46 2; clear HGz46 hgz46) | ((with_reducible refine gate_callee (f := 50) rfl ?_); (fail_if_success (have chk_ := HO154)); refine goesL_ (some 60) rfl rfl Try.func50 (by kernel_rfl) rfl #[.pointer (some ⟨g, 0, none⟩)] rfl (by (try simp only [List.map_toArray, List.map_cons, List.map_nil]); first | done | rfl | (simp only [List.length_drop, List.length_take]; rfl)) ?_; (with_reducible refine (expr_parser_union.calls k g t147 t148 (wrap64 (t149 + 1)) t150 t151 t152 t155 t156 t157 w0 _ ?side1 ?side2 A38.out).mono ?_); (case side1 => repeat (first | (with_reducible first | exact HI0.out | apply IsS50.alloc | apply IsS50.drewN | apply IsS50.drew | apply IsS50.set_0 | apply IsS50.set_1 | apply IsS50.set_2 | refine IsS50.far ?_ NB0_123.out _) | exact HI0.out)); (case side2 => repeat (first | (with_reducible first | exact HB.out | apply below_alloc | apply pw_below_drewN | apply below_drew1 | refine below_set ?_ (IsS50.ge HI0.out) | refine below_set ?_ GE123.out) | exact HB.out)); rintro e w47 ⟨v153, rfl, ho0, hi, hb, hk⟩; refine ⟨_, rfl, ?_⟩; have n0_ := Aside0.mk (KeepBut.blk hk (g' := gb123) (o := .cells #[.int .i64 0, .int .i64 0, .slice none 0 0] 24 (0, 0)) (by (with_reducible repeat (first | refine blk_drewN ?_ _ | refine blk_drew ?_ | refine blk_alloc ?_ _)); refine blk_far ?_ NB123_0.out _; (with_reducible repeat (first | refine blk_drewN ?_ _ | refine blk_drew ?_ | refine blk_alloc ?_ _)); exact BK123.out) NB123_0.out (by simp)); have n1_ := Aside0.mk (Kd.V_lower (Kd.V_mono (ok' := fun k_ => (w.heap.size ≤ k_) ∧ k_ ≠ gb123 ∧ k_ ≠ g) ho0 (fun k_ hk_ => ⟨(Nat.le_trans (keep_size (w := w) (g := g) (row := none) (by repeat (first | (with_reducible first | exact HK.out | apply KeepBut.set_ | apply keep_drewN | apply keep_drew | apply keep_alloc | refine keep_far ?_ GW123.out _) | exact HK.out))) hk_), (Kd.freshB (g := gb123) (o := .cells #[.int .i64 0, .int .i64 0, .slice none 0 0] 24 (0, 0)) (by (with_reducible repeat (first | refine blk_drewN ?_ _ | refine blk_drew ?_ | refine blk_alloc ?_ _)); refine blk_far ?_ NB123_0.out _; (with_reducible repeat (first | refine blk_drewN ?_ _ | refine blk_drew ?_ | refine blk_alloc ?_ _)); exact BK123.out) k_ hk_), (IsS50.fresh (by repeat (first | (with_reducible first | exact HI0.out | apply IsS50.alloc | apply IsS50.drewN | apply IsS50.drew | apply IsS50.set_0 | apply IsS50.set_1 | apply IsS50.set_2 | refine IsS50.far ?_ NB0_123.out _) | exact HI0.out)) k_ hk_)⟩)) (keep_size (w := w) (g := g) (row := none) (by repeat (first | (with_reducible first | exact HK.out | apply KeepBut.set_ | apply keep_drewN | apply keep_drew | apply keep_alloc | refine keep_far ?_ GW123.out _) | exact HK.out)))); have n2_ := Aside0.mk (KeepBut.trans (by repeat (first | (with_reducible first | exact HK.out | apply KeepBut.set_ | apply keep_drewN | apply keep_drew | apply keep_alloc | refine keep_far ?_ GW123.out _) | exact HK.out)) hk (.inl rfl)); have n3_ := Aside0.mk (hb); have n4_ := Aside0.mk (hi); clear BK123; clear HK; clear HB; clear HI0; have BK123 := n0_; have HO154 := n1_; have HK := n2_; have HB := n3_; have HI0 := n4_; clear n0_ n1_ n2_ n3_ n4_; (try clear hb); (try clear hb2); (try clear hk); (try clear hi); (try clear ho0)) | ((with_reducible refine gate_dst (N := 3) rfl ?_); refine box_event ?hg (N := 3) ?hd (cs := #[.int .i64 0, .int .i64 0, .slice none 0 0]) (t := 24) ?hr ?_; (case hd => rfl); (case hg => rfl); (case hr => first | (go_simp; done) | (go_simp; rfl)); intro gb158 hg w48 hbox hb; have n0_ := Aside0.mk (Kd.V_below (Kd.V_elderB (by (with_reducible repeat (first | apply Kd.V_alloc | apply Kd.V_drewN | apply Kd.V_drew)); exact HO154.out) gb158 (Nat.le_of_eq hg.symm)) hb); have n1_ := Aside0.mk (IsS50.below (by repeat (first | (with_reducible first | exact HI0.out | apply IsS50.alloc | apply IsS50.drewN | apply IsS50.drew | apply IsS50.set_0 | apply IsS50.set_1 | apply IsS50.set_2 | refine IsS50.far ?_ NB0_123.out _) | exact HI0.out)) hb); have n2_ := Aside0.mk (blk_below (g := gb123) (o := .cells #[.int .i64 0, .int .i64 0, .slice none 0 0] 24 (0, 0)) (by (with_reducible repeat (first | refine blk_drewN ?_ _ | refine blk_drew ?_ | refine blk_alloc ?_ _)); exact BK123.out) hb); have n3_ := Aside0.mk (KeepBut.trans (by repeat (first | (with_reducible first | exact HK.out | apply KeepBut.set_ | apply keep_drewN | apply keep_drew | apply keep_alloc | refine keep_far ?_ GW123.out _) | exact HK.out)) (KeepBut.of_below hb g none) (.inl rfl)); have n4_ := Aside0.mk (below_step (by repeat (first | (with_reducible first | exact HB.out | apply below_alloc | apply pw_below_drewN | apply below_drew1 | refine below_set ?_ (IsS50.ge HI0.out) | refine below_set ?_ GE123.out) | exact HB.out)) hb); have n5_ := Aside0.mk (hbox); have n6_ := Aside0.mk ((by rw [hg]; exact (keep_size (w := w) (g := g) (row := none) (by repeat (first | (with_reducible first | exact HK.out | apply KeepBut.set_ | apply keep_drewN | apply keep_drew | apply keep_alloc | refine keep_far ?_ GW123.out _) | exact HK.out))) : w.heap.size ≤ gb158)); have n7_ := Aside0.mk ((Nat.le_trans HW0.out (by rw [hg]; exact (keep_size (w := w) (g := g) (row := none) (by repeat (first | (with_reducible first | exact HK.out | apply KeepBut.set_ | apply keep_drewN | apply keep_drew | apply keep_alloc | refine keep_far ?_ GW123.out _) | exact HK.out))) : w.heap.size ≤ gb158) : w0.heap.size ≤ gb158)); have n8_ := Aside0.mk ((by rw [hg]; exact Nat.ne_of_lt (blk_lt (g := gb123) (o := .cells #[.int .i64 0, .int .i64 0, .slice none 0 0] 24 (0, 0)) (by (with_reducible repeat (first | refine blk_drewN ?_ _ | refine blk_drew ?_ | refine blk_alloc ?_ _)); exact BK123.out)) : gb123 ≠ gb158)); have n9_ := Aside0.mk ((by rw [hg]; exact Nat.ne_of_gt (blk_lt (g := gb123) (o := .cells #[.int .i64 0, .int .i64 0, .slice none 0 0] 24 (0, 0)) (by (with_reducible repeat (first | refine blk_drewN ?_ _ | refine blk_drew ?_ | refine blk_alloc ?_ _)); exact BK123.out)) : gb158 ≠ gb123)); have n10_ := Aside0.mk ((by rw [hg]; exact Nat.ne_of_lt (IsS50.lt (show IsS50 w0 _ g t155 t156 t157 from by repeat (first | (with_reducible first | exact HI0.out | apply IsS50.alloc | apply IsS50.drewN | apply IsS50.drew | apply IsS50.set_0 | apply IsS50.set_1 | apply IsS50.set_2 | refine IsS50.far ?_ NB0_123.out _) | exact HI0.out))) : g ≠ gb158)); have n11_ := Aside0.mk ((by rw [hg]; exact Nat.ne_of_gt (IsS50.lt (show IsS50 w0 _ g t155 t156 t157 from by repeat (first | (with_reducible first | exact HI0.out | apply IsS50.alloc | apply IsS50.drewN | apply IsS50.drew | apply IsS50.set_0 | apply IsS50.set_1 | apply IsS50.set_2 | refine IsS50.far ?_ NB0_123.out _) | exact HI0.out))) : gb158 ≠ g)); clear HO154; clear HI0; clear BK123; clear HK; clear HB; have HO154 := n0_; have HI0 := n1_; have BK123 := n2_; have HK := n3_; have HB := n4_; have BK158 := n5_; have GW158 := n6_; have GE158 := n7_; have NB123_158 := n8_; have NB158_123 := n9_; have NB0_158 := n10_; have NB158_0 := n11_; clear n0_ n1_ n2_ n3_ n4_ n5_ n6_ n7_ n8_ n9_ n10_ n11_; clear hb hbox hg; have hnb49 := NB158_123.out; have hnc49 := NB123_158.out; have hnb50 := NB158_0.out; have hnc50 := NB0_158.out; have hcz51_0 : w48.cell? ⟨gb158, 0, none⟩ = some (.int .i64 0) := (blk_cell BK158.out 0).trans rfl; have hcz51_1 : w48.cell? ⟨gb158, 1, none⟩ = some (.int .i64 0) := (blk_cell BK158.out 1).trans rfl; have hcz51_2 : w48.cell? ⟨gb158, 2, none⟩ = some (.slice none 0 0) := (blk_cell BK158.out 2).trans rfl; have hfz51_0 := blk_frozen BK158.out 0; have hfz51_1 := blk_frozen BK158.out 1; have hfz51_2 := blk_frozen BK158.out 2; obtain ⟨Ao52, co52, eo52⟩ := Kd.V_slice HO154.out; subst eo52) | ((with_reducible refine gate_callee (f := 83) rfl ?_); refine goesL_ (some 62) rfl rfl Try.func83 (by kernel_rfl) rfl #[.pointer (some ⟨g, 0, none⟩), .int .u8 41] rfl (by (try simp only [List.map_toArray, List.map_cons, List.map_nil]); first | done | rfl | (simp only [List.length_drop, List.length_take]; rfl)) ?_; (with_reducible refine (expr_parser_is.calls k g t155 t156 t157 41 true t160 t161 t162 w0 _ ?side1 ?side2 A39.out).mono ?_); (case side1 => repeat (first | (with_reducible first | exact HI0.out | apply IsS50.alloc | apply IsS50.drewN | apply IsS50.drew | apply IsS50.set_0 | apply IsS50.set_1 | apply IsS50.set_2 | refine IsS50.far ?_ NB0_123.out _ | refine IsS50.far ?_ NB0_158.out _) | exact HI0.out)); (case side2 => repeat (first | (with_reducible first | exact HB.out | apply below_alloc | apply pw_below_drewN | apply below_drew1 | refine below_set ?_ (IsS50.ge HI0.out) | refine below_set ?_ GE123.out | refine below_set ?_ GE158.out) | exact HB.out)); rintro e w53 ⟨rfl, hi, hb, hk⟩; refine ⟨_, rfl, ?_⟩; have n0_ := Aside0.mk (KeepBut.blk hk (g' := gb123) (o := .cells #[.int .i64 0, .int .i64 0, .slice none 0 0] 24 (0, 0)) (by (with_reducible repeat (first | refine blk_drewN ?_ _ | refine blk_drew ?_ | refine blk_alloc ?_ _)); refine blk_far ?_ NB123_158.out _; (with_reducible repeat (first | refine blk_drewN ?_ _ | refine blk_drew ?_ | refine blk_alloc ?_ _)); refine blk_far ?_ NB123_158.out _; (with_reducible repeat (first | refine blk_drewN ?_ _ | refine blk_drew ?_ | refine blk_alloc ?_ _)); refine blk_far ?_ NB123_158.out _; (with_reducible repeat (first | refine blk_drewN ?_ _ | refine blk_drew ?_ | refine blk_alloc ?_ _)); exact BK123.out) NB123_0.out (by simp)); have n1_ := Aside0.mk (Kd.V_mono (Kd.V_keep (Kd.V_mono (ok := fun k_ => ((((w.heap.size ≤ k_)) ∧ (k_ ≠ gb123 ∧ k_ ≠ g)) ∧ k_ ≠ gb158)) (by (with_reducible repeat (first | apply Kd.V_alloc | apply Kd.V_drewN | apply Kd.V_drew)); exact (Kd.V_mono (Kd.V_far (p := ⟨gb158, 2, none⟩) (Kd.V_far (p := ⟨gb158, 1, none⟩) (Kd.V_far (p := ⟨gb158, 0, none⟩) (Kd.V_mono HO154.out (fun k_ hk => (⟨hk, hk.2⟩ : _ ∧ k_ ≠ gb158))) (fun _ hk => hk.2) (.int .i64 t150)) (fun _ hk => hk.2) (.int .i64 t151)) (fun _ hk => hk.2) (.slice Ao52 t152.length co52)) (fun _ h_ => h_.1))) (fun k_ hk_ => (⟨hk_, hk_.1.2.2⟩ : _ ∧ k_ ≠ g))) hk (fun _ h => h.2)) (fun _ h => h.1)); have n2_ := Aside0.mk (KeepBut.blk hk (g' := gb158) (o := .cells #[.int .i64 t150, .int .i64 t151, .slice Ao52 t152.length co52] 24 (0, 0)) (by (with_reducible repeat (first | refine blk_drewN ?_ _ | refine blk_drew ?_ | refine blk_alloc ?_ _)); refine blk_put (cs := #[.int .i64 t150, .int .i64 t151, .slice none 0 0]) ?_ 2 _ rfl; (with_reducible repeat (first | refine blk_drewN ?_ _ | refine blk_drew ?_ | refine blk_alloc ?_ _)); refine blk_put (cs := #[.int .i64 t150, .int .i64 0, .slice none 0 0]) ?_ 1 _ rfl; (with_reducible repeat (first | refine blk_drewN ?_ _ | refine blk_drew ?_ | refine blk_alloc ?_ _)); refine blk_put (cs := #[.int .i64 0, .int .i64 0, .slice none 0 0]) ?_ 0 _ rfl; (with_reducible repeat (first | refine blk_drewN ?_ _ | refine blk_drew ?_ | refine blk_alloc ?_ _)); exact BK158.out) NB158_0.out (by simp)); have n3_ := Aside0.mk (KeepBut.trans (by repeat (first | (with_reducible first | exact HK.out | apply KeepBut.set_ | apply keep_drewN | apply keep_drew | apply keep_alloc | refine keep_far ?_ GW123.out _ | refine keep_far ?_ GW158.out _) | exact HK.out)) hk (.inl rfl)); have n4_ := Aside0.mk (hb); have n5_ := Aside0.mk (hi); clear BK123; clear HO154; clear BK158; clear HK; clear HB; clear HI0; have BK123 := n0_; have HO154 := n1_; have BK158 := n2_; have HK := n3_; have HB := n4_; have HI0 := n5_; clear n0_ n1_ n2_ n3_ n4_ n5_; (try clear hb); (try clear hb2); (try clear hk); (try clear hi); obtain ⟨HGz54, hgz54⟩ := HI0.out; have hcz54_0 := cellS50_0 HGz54; have hcz54_1 := cellS50_1 HGz54; have hcz54_2 := cellS50_2 HGz54; have hfz54_0 := blk_frozen HGz54 0; have hfz54_1 := blk_frozen HGz54 1; have hfz54_2 := blk_frozen HGz54 2; clear HGz54 hgz54; have hcz55_0 : w53.cell? ⟨gb158, 0, none⟩ = some (.int .i64 t150) := (blk_cell BK158.out 0).trans rfl; have hcz55_1 : w53.cell? ⟨gb158, 1, none⟩ = some (.int .i64 t151) := (blk_cell BK158.out 1).trans rfl; have hcz55_2 : w53.cell? ⟨gb158, 2, none⟩ = some (.slice Ao52 t152.length co52) := (blk_cell BK158.out 2).trans rfl; have hfz55_0 := blk_frozen BK158.out 0; have hfz55_1 := blk_frozen BK158.out 1; have hfz55_2 := blk_frozen BK158.out 2; have hnb56 := NB123_0.out; have hnc56 := NB0_123.out; have hcz57_0 : w53.cell? ⟨gb123, 0, none⟩ = some (.int .i64 0) := (blk_cell BK123.out 0).trans rfl; have hcz57_1 : w53.cell? ⟨gb123, 1, none⟩ = some (.int .i64 0) := (blk_cell BK123.out 1).trans rfl; have hcz57_2 : w53.cell? ⟨gb123, 2, none⟩ = some (.slice none 0 0) := (blk_cell BK123.out 2).trans rfl; have hfz57_0 := blk_frozen BK123.out 0; have hfz57_1 := blk_frozen BK123.out 1; have hfz57_2 := blk_frozen BK123.out 2))
      refine bodyPost_ret (results_cell_row rfl _ _ gb123 24 #[.int .i64 t150, .int .i64 t151, .slice Ao52 t152.length co52] (0, 0) _ rfl (by (with_reducible repeat (first | refine blk_drewN ?_ _ | refine blk_drew ?_ | refine blk_alloc ?_ _)); refine blk_put (cs := #[.int .i64 t150, .int .i64 t151, .slice none 0 0]) ?_ 2 _ rfl; (with_reducible repeat (first | refine blk_drewN ?_ _ | refine blk_drew ?_ | refine blk_alloc ?_ _)); refine blk_put (cs := #[.int .i64 t150, .int .i64 0, .slice none 0 0]) ?_ 1 _ rfl; (with_reducible repeat (first | refine blk_drewN ?_ _ | refine blk_drew ?_ | refine blk_alloc ?_ _)); refine blk_put (cs := #[.int .i64 0, .int .i64 0, .slice none 0 0]) ?_ 0 _ rfl; (with_reducible repeat (first | refine blk_drewN ?_ _ | refine blk_drew ?_ | refine blk_alloc ?_ _)); refine blk_far ?_ NB123_0.out _; (with_reducible repeat (first | refine blk_drewN ?_ _ | refine blk_drew ?_ | refine blk_alloc ?_ _)); exact BK123.out) Try.underlying24 rfl (by kernel_rfl)) rfl ?_
      exact ⟨_, by first | rfl | (simp [errW_none, errW_some] <;> rfl) | (simp [*, errW_none, errW_some] <;> rfl), by (with_reducible repeat (first | apply Kd.V_alloc | apply Kd.V_drewN | apply Kd.V_drew)); exact Kd.V_mono (Kd.V_far (p := ⟨gb123, 2, none⟩) (Kd.V_far (p := ⟨gb123, 1, none⟩) (Kd.V_far (p := ⟨gb123, 0, none⟩) (Kd.V_far (p := ⟨g, 2, none⟩) (Kd.V_mono (Kd.V_mono HO154.out (fun k_ hk => (⟨hk, hk.1.2.2⟩ : _ ∧ k_ ≠ g))) (fun k_ hk => (⟨hk, hk.1.1.2.1⟩ : _ ∧ k_ ≠ gb123))) (fun _ hk => hk.1.2) (.int .i64 (wrap64 (t162 + 1)))) (fun _ hk => hk.2) (.int .i64 t150)) (fun _ hk => hk.2) (.int .i64 t151)) (fun _ hk => hk.2) (.slice Ao52 t152.length co52)) (fun _ hk => hk.1.1.1.1), by repeat (first | (with_reducible first | exact HI0.out | apply IsS50.alloc | apply IsS50.drewN | apply IsS50.drew | apply IsS50.set_0 | apply IsS50.set_1 | apply IsS50.set_2 | refine IsS50.far ?_ NB0_123.out _ | refine IsS50.far ?_ NB0_158.out _) | exact HI0.out), by repeat (first | (with_reducible first | exact HB.out | apply below_alloc | apply pw_below_drewN | apply below_drew1 | refine below_set ?_ (IsS50.ge HI0.out) | refine below_set ?_ GE123.out | refine below_set ?_ GE158.out) | exact HB.out), by repeat (first | (with_reducible first | exact HK.out | apply KeepBut.set_ | apply keep_drewN | apply keep_drew | apply keep_alloc | refine keep_far ?_ GW123.out _ | refine keep_far ?_ GW158.out _) | exact HK.out)⟩
     ·replace c40 := Bool.eq_false_iff.mpr c40
      subst c40
      have H1 : (none) = some (r1, r2, r3, r4, r5, r6) := by rw [if_neg (show ¬ (false = true) by decide)] at H; exact H
      clear H
      have H := H1
      clear H1
      exact absurd H (by simp)
    ·replace c37 := Bool.eq_false_iff.mpr c37
     subst c37
     have H1 : (none) = some (r1, r2, r3, r4, r5, r6) := by rw [if_neg (show ¬ (false = true) by decide)] at H; exact H
     clear H
     have H := H1
     clear H1
     exact absurd H (by simp)
end Go.Proofs.Ytjofkebiacaciaa.PAll
end
section
namespace Go.Proofs.Ytjofkebiacaciaa.PAll
open Go.RowKit Go.Proofs.YtjofkebiacaciaaW.PrintWords Go.Proofs.YtjofkebiacaciaaW.PrintLast Go.Proofs.YtjofkebiacaciaaW.PrintMore
set_option linter.all false
abbrev atom0 : AtomC where
 f := fun _ _ _ _ => none
 mono := fun _ _ _ _ => LeO.none _
 calls := fun k g s0 s1 s2 r1 r2 r3 r4 r5 r6 w0 w hI hB h => by simp at h
abbrev atomK : Nat → AtomC
 | 0 => atom0
 | d + 1 => @AtomC.mk (@expr_parser_atomS.f (atomK d)) (@expr_parser_atomS.mono (atomK d)) (@expr_parser_atomS.calls (atomK d))
end Go.Proofs.Ytjofkebiacaciaa.PAll
end
section
namespace Go.Proofs.Ytjofkebiacaciaa.PAll
open Go.RowKit Go.Proofs.YtjofkebiacaciaaW.PrintWords Go.Proofs.YtjofkebiacaciaaW.PrintLast Go.Proofs.YtjofkebiacaciaaW.PrintMore
set_option linter.all false
theorem parse_catch_idle (p q r : Addr) (w : World) :
  CallsD Try.prog 49 #[.pointer (some p), .pointer (some q), .pointer (some r)] .returning w fun e u' w' => e = .returned (.tuple #[]) ∧ u' = .returning ∧ w' = w := by
 refine callsD_of_wpS Try.func49 rfl fun c₀ cs hu => ?_
 apply wpS_seq
 apply wpS_region
 simp [wpOpsS, go_sem, recoverD, hu, Try.ntmps49, Exit.thenS]
 apply wpS_seq
 apply wpS_region
 simp [wpOpsS, go_sem, recoverD, hu, Try.ntmps49, Exit.thenS]
 refine wpS_cond (t := false) (by simp [Act.eval, Array.replicate]) ?_
 simp only [Bool.false_eq_true, if_false]
 refine wpS_of_wp (wp_skip ?_)
 cases c₀
 simp_all [bodyPostS, results, Try.results49]
end Go.Proofs.Ytjofkebiacaciaa.PAll
end
section
namespace Go.Proofs.Ytjofkebiacaciaa.PAll
open Go.RowKit Go.Proofs.YtjofkebiacaciaaW.PrintWords Go.Proofs.YtjofkebiacaciaaW.PrintLast Go.Proofs.YtjofkebiacaciaaW.PrintMore
set_option linter.all false
attribute [local go_sem] max2_int min2_int max_two min_two max_three min_three max_four min_four
def expr_Parse.f (k : Nat) (s : ByteArray) (letters : Int) : Option (Int × Int × (List (S24)) × Int × Int) :=
 if letters < 1 then none else if 6 < letters then none else if 4096 < (s.size : Int) then none else
 (@expr_parser_union.f (atomK (s.size + 1)) k s letters 0).bind fun t => (expr_parser_peek.f k t.2.2.2.1 t.2.2.2.2.1 t.2.2.2.2.2).bind fun q =>
  if q.2.2.2 < (s.size : Int) then none else (simplify_Within.f k t.1 t.2.1 t.2.2.1).bind fun b => if b = true then some (t.1, t.2.1, t.2.2.1, 0, 0) else none
set_option maxHeartbeats 8000000 in
set_option maxRecDepth 100000 in
theorem expr_Parse.calls (k : Nat) (s : ByteArray) (letters : Int) (r1 : Int) (r2 : Int) (r3 : List (S24)) (r4 r5 : Int) (w : World) (h : expr_Parse.f k s letters = some (r1, r2, r3, r4, r5)) :
  Calls Try.prog 21 #[.string s, .int .i64 letters] w fun e w' => ∃ v2_ : Value, e = .returned (.tuple #[.agg #[.int .i64 r1, .int .i64 r2, v2_], .int .i64 r4, .int .i64 r5]) ∧ Kd.V k24 24 w' w.heap.size (fun k_ => (w.heap.size ≤ k_)) v2_ r3 ∧ Below w.heap.size w w' := by
 have hmf : ∀ (fn : Fn) (first cap : Array Value) (w : World), (Instr.makeFunc fn first cap).run Try.prog w = .ok (.func fn first cap) w := fun _ _ _ _ => rfl
 have hu24 := Try.underlying24
 unfold expr_Parse.f at h
 by_cases c1 : letters < 1
 ·simp [c1] at h
 by_cases c2 : 6 < letters
 ·simp [c1, c2] at h
 by_cases c3 : 4096 < (s.size : Int)
 ·simp [c1, c2, c3] at h
 rw [if_neg c1, if_neg c2, if_neg c3] at h
 obtain ⟨⟨t1, t2, t3, t4, t5, t6⟩, A1, h⟩ := Option.bind_eq_some_iff.mp h
 obtain ⟨⟨q1, q2, q3, q4⟩, A2, h⟩ := Option.bind_eq_some_iff.mp h
 by_cases c4 : q4 < (s.size : Int)
 ·simp [c4] at h
 rw [if_neg c4] at h
 obtain ⟨b, A3, h⟩ := Option.bind_eq_some_iff.mp h
 cases b
 ·simp at h
 simp only [if_true, Option.some.injEq, Prod.mk.injEq] at h
 obtain ⟨rfl, rfl, rfl, rfl, rfl⟩ := h
 have d1 : decide (letters < 1) = false := decide_eq_false c1
 have d2 : decide (6 < letters) = false := decide_eq_false c2
 have d3 : decide (4096 < (s.size : Int)) = false := decide_eq_false c3
 have d4 : decide (q4 < (s.size : Int)) = false := decide_eq_false c4
 have A1 := Aside0.mk A1; have A2 := Aside0.mk A2; have A3 := Aside0.mk A3
 rename_i A1_ A2_ A3_
 clear A1_ A2_ A3_
 go_enter_defers Try.func21, Try.ntmps21
 go_wp2_with (first
  | ((with_reducible refine gate_dst (N := 4) rfl ?_); refine box_event ?hg (N := 4) ?hd (cs := #[.int .i64 0, .int .i64 0, .slice none 0 0]) (t := 24) ?hr ?_; (case hd => rfl); (case hg => rfl); (case hr => first | (go_simp; done) | (go_simp; rfl)); intro g4 hg4 w4 hbox4 hb4; have G4 := Aside0.mk hg4; have BX4 := Aside0.mk hbox4; have BB4 := Aside0.mk hb4; clear hg4 hbox4 hb4)
  | ((with_reducible refine gate_dst (N := 5) rfl ?_); refine box_event ?hg (N := 5) ?hd (cs := #[.int .i64 0]) (t := 3) ?hr ?_; (case hd => rfl); (case hg => rfl); (case hr => first | (go_simp; done) | (go_simp; rfl)); intro g5 hg5 w5 hbox5 hb5; have G5 := Aside0.mk hg5; have BX5 := Aside0.mk hbox5; have BB5 := Aside0.mk hb5; clear hg5 hbox5 hb5)
  | ((with_reducible refine gate_dst (N := 6) rfl ?_); refine box_event ?hg (N := 6) ?hd (cs := #[.int .i64 0]) (t := 25) ?hr ?_; (case hd => rfl); (case hg => rfl); (case hr => first | (go_simp; done) | (go_simp; rfl)); intro g6 hg6 w6 hbox6 hb6; have G6 := Aside0.mk hg6; have BX6 := Aside0.mk hbox6; have BB6 := Aside0.mk hb6; clear hg6 hbox6 hb6)
  | ((with_reducible refine gate_dst (N := 23) rfl ?_); refine box_event ?hg (N := 23) ?hd (cs := #[.string s, .int .i64 letters, .int .i64 0]) (t := 50) ?hr ?_; (case hd => rfl); (case hg => rfl); (case hr => first | (go_simp; done) | (go_simp; rfl)); intro g hg w7 hbox7 hb7; have G7 := Aside0.mk hg; have BX7 := Aside0.mk hbox7; have BB7 := Aside0.mk hb7; clear hg hbox7 hb7))
 have lt4 : g4 < w4.heap.size := (Array.getElem?_eq_some_iff.mp BX4.out).1
 have lt5 : g5 < w5.heap.size := (Array.getElem?_eq_some_iff.mp BX5.out).1
 have lt6 : g6 < w6.heap.size := (Array.getElem?_eq_some_iff.mp BX6.out).1
 have lt7 : g < w7.heap.size := (Array.getElem?_eq_some_iff.mp BX7.out).1
 have BW5 := below_step BB4.out BB5.out
 have BW6 := below_step BW5 BB6.out
 have BW7 := below_step BW6 BB7.out
 have BK4 := Aside0.mk (blk_below (blk_below (blk_below BX4.out BB5.out) BB6.out) BB7.out)
 have BK5 := Aside0.mk (blk_below (blk_below BX5.out BB6.out) BB7.out)
 have BK6 := Aside0.mk (blk_below BX6.out BB7.out)
 have e4 := G4.out; have e5 := G5.out; have e6 := G6.out; have e7 := G7.out
 have z4 : w4.heap.size ≤ w5.heap.size := below_size BB5.out
 have z5 : w5.heap.size ≤ w6.heap.size := below_size BB6.out
 have z6 : w6.heap.size ≤ w7.heap.size := below_size BB7.out
 have ge4 : w.heap.size ≤ g4 := by omega
 have ge5 : w.heap.size ≤ g5 := by omega
 have ge6 : w.heap.size ≤ g6 := by omega
 have ge7 : w.heap.size ≤ g := by omega
 have n45 : g4 ≠ g5 := by omega
 have n46 : g4 ≠ g6 := by omega
 have n47 : g4 ≠ g := by omega
 have n56 : g5 ≠ g6 := by omega
 have n57 : g5 ≠ g := by omega
 have n67 : g6 ≠ g := by omega
 have f4 : g4 < w7.heap.size := by omega
 have f5 : g5 < w7.heap.size := by omega
 have f6 : g6 < w7.heap.size := by omega
 have HI := Aside0.mk (show IsS50 w w7 g s letters 0 from ⟨BX7.out, ge7⟩)
 have HB := Aside0.mk BW7
 have M := Aside0.mk (And.intro (And.intro ge4 (And.intro ge5 (And.intro ge6 ge7))) (And.intro (And.intro n45 (And.intro n46 n47)) (And.intro (And.intro n56 n57) n67)))
 have FZ := Aside0.mk (And.intro (And.intro f4 (And.intro f5 f6)) lt7)
 have le7 := Aside0.mk (show w.heap.size ≤ w7.heap.size by omega)
 clear BX4 BX5 BX6 BX7 BB4 BB5 BB6 BB7 BW5 BW6 BW7 G4 G5 G6 G7 e4 e5 e6 e7 z4 z5 z6 lt4 lt5 lt6 lt7 ge4 ge5 ge6 ge7 n45 n46 n47 n56 n57 n67 f4 f5 f6
 clear h
 refine (@expr_parser_union.calls (atomK (s.size + 1)) k g s letters 0 t1 t2 t3 t4 t5 t6 w w7 HI.out HB.out A1.out).mono ?_
 rintro e w8 ⟨v2, rfl, ho, hi, hb, hk⟩
 have K4 := Aside0.mk (KeepBut.blk hk BK4.out M.out.2.1.2.2 (by simp))
 have K5 := Aside0.mk (KeepBut.blk hk BK5.out M.out.2.2.1.2 (by simp))
 have K6 := Aside0.mk (KeepBut.blk hk BK6.out M.out.2.2.2 (by simp))
 have HO := Aside0.mk (Kd.V_mono (ok' := fun k_ => (w.heap.size ≤ k_) ∧ k_ ≠ g4 ∧ k_ ≠ g5 ∧ k_ ≠ g6 ∧ k_ ≠ g) (Kd.V_lower ho le7.out) (fun k_ hk_ => ⟨Nat.le_trans le7.out hk_, fun e_ => absurd FZ.out.1.1 (by omega), fun e_ => absurd FZ.out.1.2.1 (by omega), fun e_ => absurd FZ.out.1.2.2 (by omega), fun e_ => absurd FZ.out.2 (by omega)⟩))
 obtain ⟨Ao, co, eo⟩ := Kd.V_slice HO.out
 subst eo
 have HI8 := Aside0.mk hi
 have HB8 := Aside0.mk hb
 clear ho hi hb hk BK4 BK5 BK6 HI HB FZ
 have q40 : w8.cell? ⟨g4, 0, none⟩ = some (.int .i64 0) := (blk_cell K4.out 0).trans rfl
 have q41 : w8.cell? ⟨g4, 1, none⟩ = some (.int .i64 0) := (blk_cell K4.out 1).trans rfl
 have q42 : w8.cell? ⟨g4, 2, none⟩ = some (.slice none 0 0) := (blk_cell K4.out 2).trans rfl
 have qf0 := blk_frozen K4.out 0
 have qf1 := blk_frozen K4.out 1
 have qf2 := blk_frozen K4.out 2
 go_wp2_with (fail)
 have M1 : Aside0 (Below w.heap.size w (((w8.setCell ⟨g4, 0, none⟩ (.int .i64 t1)).setCell ⟨g4, 1, none⟩ (.int .i64 t2)).setCell ⟨g4, 2, none⟩ (.slice Ao t3.length co))) := ⟨below_set (below_set (below_set HB8.out M.out.1.1) M.out.1.1) M.out.1.1⟩
 have I1 : Aside0 (IsS50 w (((w8.setCell ⟨g4, 0, none⟩ (.int .i64 t1)).setCell ⟨g4, 1, none⟩ (.int .i64 t2)).setCell ⟨g4, 2, none⟩ (.slice Ao t3.length co)) g t4 t5 t6) := ⟨IsS50.far (IsS50.far (IsS50.far HI8.out M.out.2.1.2.2.symm _) M.out.2.1.2.2.symm _) M.out.2.1.2.2.symm _⟩
 have L4 : Aside0 ((((w8.setCell ⟨g4, 0, none⟩ (.int .i64 t1)).setCell ⟨g4, 1, none⟩ (.int .i64 t2)).setCell ⟨g4, 2, none⟩ (.slice Ao t3.length co)).heap[g4]? = some (.cells #[.int .i64 t1, .int .i64 t2, .slice Ao t3.length co] 24 (0, 0))) := ⟨blk_put (blk_put (blk_put K4.out 0 (.int .i64 t1) rfl) 1 (.int .i64 t2) rfl) 2 (.slice Ao t3.length co) rfl⟩
 have L5 : Aside0 ((((w8.setCell ⟨g4, 0, none⟩ (.int .i64 t1)).setCell ⟨g4, 1, none⟩ (.int .i64 t2)).setCell ⟨g4, 2, none⟩ (.slice Ao t3.length co)).heap[g5]? = some (.cells #[.int .i64 0] 3 (0, 0))) := ⟨blk_far (blk_far (blk_far K5.out M.out.2.1.1.symm _) M.out.2.1.1.symm _) M.out.2.1.1.symm _⟩
 have L6 : Aside0 ((((w8.setCell ⟨g4, 0, none⟩ (.int .i64 t1)).setCell ⟨g4, 1, none⟩ (.int .i64 t2)).setCell ⟨g4, 2, none⟩ (.slice Ao t3.length co)).heap[g6]? = some (.cells #[.int .i64 0] 25 (0, 0))) := ⟨blk_far (blk_far (blk_far K6.out M.out.2.1.2.1.symm _) M.out.2.1.2.1.symm _) M.out.2.1.2.1.symm _⟩
 have O1 : Aside0 (Kd.V k24 24 (((w8.setCell ⟨g4, 0, none⟩ (.int .i64 t1)).setCell ⟨g4, 1, none⟩ (.int .i64 t2)).setCell ⟨g4, 2, none⟩ (.slice Ao t3.length co)) w.heap.size (fun k_ => (w.heap.size ≤ k_) ∧ k_ ≠ g4 ∧ k_ ≠ g5 ∧ k_ ≠ g6 ∧ k_ ≠ g) (.slice Ao t3.length co) t3) := ⟨Kd.V_far (Kd.V_far (Kd.V_far (Kd.V_lower HO.out (Nat.le_refl _)) (fun _ hk => hk.2.1) _) (fun _ hk => hk.2.1) _) (fun _ hk => hk.2.1) _⟩
 clear HO HB8 HI8 K4 K5 K6 q40 q41 q42 qf0 qf1 qf2
 generalize (((w8.setCell ⟨g4, 0, none⟩ (.int .i64 t1)).setCell ⟨g4, 1, none⟩ (.int .i64 t2)).setCell ⟨g4, 2, none⟩ (.slice Ao t3.length co)) = w9 at M1 I1 L4 L5 L6 O1 ⊢
 refine (expr_parser_peek.calls k g t4 t5 t6 q1 q2 q3 q4 w w9 I1.out M1.out A2.out).mono ?_
 rintro e w10 ⟨rfl, hi, hb, hk⟩
 have O2 := Aside0.mk (Kd.V_keep (Kd.V_mono (ok' := fun k_ => ((w.heap.size ≤ k_) ∧ k_ ≠ g4 ∧ k_ ≠ g5 ∧ k_ ≠ g6 ∧ k_ ≠ g) ∧ k_ ≠ g) O1.out (fun k_ h_ => ⟨h_, h_.2.2.2.2⟩)) hk (fun _ h => h.2))
 have N4 := Aside0.mk (KeepBut.blk hk L4.out M.out.2.1.2.2 (by simp))
 have N5 := Aside0.mk (KeepBut.blk hk L5.out M.out.2.2.1.2 (by simp))
 have N6 := Aside0.mk (KeepBut.blk hk L6.out M.out.2.2.2 (by simp))
 have HI := Aside0.mk hi
 have HB := Aside0.mk hb
 clear hi hb hk O1 L4 L5 L6 I1 M1
 have y1 := is50_2 HI.out
 have y2 := is50_f HI.out 2
 have x40 : w10.cell? ⟨g4, 0, none⟩ = some (.int .i64 t1) := (blk_cell N4.out 0).trans rfl
 have x41 : w10.cell? ⟨g4, 1, none⟩ = some (.int .i64 t2) := (blk_cell N4.out 1).trans rfl
 have x42 : w10.cell? ⟨g4, 2, none⟩ = some (.slice Ao t3.length co) := (blk_cell N4.out 2).trans rfl
 go_wp2_with (fail)
 refine (simplify_Within.calls k t1 t2 Ao co t3 true w10 (Kd.V_reads' O2.out).2.2 (Kd.V_reads' O2.out).2.1 A3.out).mono ?_
 rintro e w11 ⟨rfl, hb⟩
 have O3 := Aside0.mk (Kd.V_below O2.out hb)
 have P4 := Aside0.mk (blk_below N4.out hb)
 have P5 := Aside0.mk (blk_below N5.out hb)
 have P6 := Aside0.mk (blk_below N6.out hb)
 have HB11 := Aside0.mk (below_step HB.out hb)
 clear hb HB HI O2 N4 N5 N6 y1 y2 x40 x41 x42
 have u40 : w11.cell? ⟨g4, 0, none⟩ = some (.int .i64 t1) := (blk_cell P4.out 0).trans rfl
 have u41 : w11.cell? ⟨g4, 1, none⟩ = some (.int .i64 t2) := (blk_cell P4.out 1).trans rfl
 have u42 : w11.cell? ⟨g4, 2, none⟩ = some (.slice Ao t3.length co) := (blk_cell P4.out 2).trans rfl
 have u50 : w11.cell? ⟨g5, 0, none⟩ = some (.int .i64 0) := (blk_cell P5.out 0).trans rfl
 have u60 : w11.cell? ⟨g6, 0, none⟩ = some (.int .i64 0) := (blk_cell P6.out 0).trans rfl
 have v40 := blk_frozen P4.out 0
 have v41 := blk_frozen P4.out 1
 have v42 := blk_frozen P4.out 2
 have v50 := blk_frozen P5.out 0
 have v60 := blk_frozen P6.out 0
 have m45 := M.out.2.1.1
 have m46 := M.out.2.1.2.1
 have m56 := M.out.2.2.1.1
 have m54 := m45.symm
 have m64 := m46.symm
 have m65 := m56.symm
 go_wp2_with (fail)
 have F1 : Aside0 (Below w.heap.size w (((((w11.setCell ⟨g4, 0, none⟩ (.int .i64 t1)).setCell ⟨g4, 1, none⟩ (.int .i64 t2)).setCell ⟨g4, 2, none⟩ (.slice Ao t3.length co)).setCell ⟨g5, 0, none⟩ (.int .i64 0)).setCell ⟨g6, 0, none⟩ (.int .i64 0))) := ⟨below_set (below_set (below_set (below_set (below_set HB11.out M.out.1.1) M.out.1.1) M.out.1.1) M.out.1.2.1) M.out.1.2.2.1⟩
 have F4 : (((((w11.setCell ⟨g4, 0, none⟩ (.int .i64 t1)).setCell ⟨g4, 1, none⟩ (.int .i64 t2)).setCell ⟨g4, 2, none⟩ (.slice Ao t3.length co)).setCell ⟨g5, 0, none⟩ (.int .i64 0)).setCell ⟨g6, 0, none⟩ (.int .i64 0)).heap[g4]? = some (.cells #[.int .i64 t1, .int .i64 t2, .slice Ao t3.length co] 24 (0, 0)) := blk_far (blk_far (blk_put (blk_put (blk_put P4.out 0 (.int .i64 t1) rfl) 1 (.int .i64 t2) rfl) 2 (.slice Ao t3.length co) rfl) m45 _) m46 _
 have F5 : (((((w11.setCell ⟨g4, 0, none⟩ (.int .i64 t1)).setCell ⟨g4, 1, none⟩ (.int .i64 t2)).setCell ⟨g4, 2, none⟩ (.slice Ao t3.length co)).setCell ⟨g5, 0, none⟩ (.int .i64 0)).setCell ⟨g6, 0, none⟩ (.int .i64 0)).heap[g5]? = some (.cells #[.int .i64 0] 3 (0, 0)) := blk_far (blk_put (blk_far (blk_far (blk_far P5.out m54 _) m54 _) m54 _) 0 (.int .i64 0) rfl) m56 _
 have F6 : (((((w11.setCell ⟨g4, 0, none⟩ (.int .i64 t1)).setCell ⟨g4, 1, none⟩ (.int .i64 t2)).setCell ⟨g4, 2, none⟩ (.slice Ao t3.length co)).setCell ⟨g5, 0, none⟩ (.int .i64 0)).setCell ⟨g6, 0, none⟩ (.int .i64 0)).heap[g6]? = some (.cells #[.int .i64 0] 25 (0, 0)) := blk_put (blk_far (blk_far (blk_far (blk_far P6.out m64 _) m64 _) m64 _) m65 _) 0 (.int .i64 0) rfl
 have F0 : Aside0 (Kd.V k24 24 (((((w11.setCell ⟨g4, 0, none⟩ (.int .i64 t1)).setCell ⟨g4, 1, none⟩ (.int .i64 t2)).setCell ⟨g4, 2, none⟩ (.slice Ao t3.length co)).setCell ⟨g5, 0, none⟩ (.int .i64 0)).setCell ⟨g6, 0, none⟩ (.int .i64 0)) w.heap.size (fun k_ => ((w.heap.size ≤ k_) ∧ k_ ≠ g4 ∧ k_ ≠ g5 ∧ k_ ≠ g6 ∧ k_ ≠ g) ∧ k_ ≠ g) (.slice Ao t3.length co) t3) := ⟨Kd.V_far (Kd.V_far (Kd.V_far (Kd.V_far (Kd.V_far O3.out (fun _ hk => hk.1.2.1) _) (fun _ hk => hk.1.2.1) _) (fun _ hk => hk.1.2.1) _) (fun _ hk => hk.1.2.2.1) _) (fun _ hk => hk.1.2.2.2.1) _⟩
 clear O3 P4 P5 P6 HB11 u40 u41 u42 u50 u60 v40 v41 v42 v50 v60
 generalize (((((w11.setCell ⟨g4, 0, none⟩ (.int .i64 t1)).setCell ⟨g4, 1, none⟩ (.int .i64 t2)).setCell ⟨g4, 2, none⟩ (.slice Ao t3.length co)).setCell ⟨g5, 0, none⟩ (.int .i64 0)).setCell ⟨g6, 0, none⟩ (.int .i64 0)) = wf at F1 F4 F5 F6 F0 ⊢
 refine leaves_cons (f := 49) (args := #[.pointer (some ⟨g4, 0, none⟩), .pointer (some ⟨g5, 0, none⟩), .pointer (some ⟨g6, 0, none⟩)]) (by simp) (by simp [go_sem]) ?_
 refine (parse_catch_idle ⟨g4, 0, none⟩ ⟨g5, 0, none⟩ ⟨g6, 0, none⟩ _).mono ?_
 rintro e u' w'' ⟨rfl, rfl, rfl⟩
 have u40 : w''.cell? ⟨g4, 0, none⟩ = some (.int .i64 t1) := (blk_cell F4 0).trans rfl
 have u41 : w''.cell? ⟨g4, 1, none⟩ = some (.int .i64 t2) := (blk_cell F4 1).trans rfl
 have u42 : w''.cell? ⟨g4, 2, none⟩ = some (.slice Ao t3.length co) := (blk_cell F4 2).trans rfl
 have u50 : w''.cell? ⟨g5, 0, none⟩ = some (.int .i64 0) := (blk_cell F5 0).trans rfl
 have u60 : w''.cell? ⟨g6, 0, none⟩ = some (.int .i64 0) := (blk_cell F6 0).trans rfl
 simp [Leaves, settle, results, Try.results21, go_sem, u40, u41, u42, u50, u60]
 exact ⟨Kd.V_mono F0.out (fun k_ h => h.1.1), F1.out⟩
theorem expr_Parse.mono : ∀ a0 a1 k, LeO (expr_Parse.f k a0 a1) (expr_Parse.f (k + 1) a0 a1) := by
 intro a0 a1 k
 unfold expr_Parse.f
 refine LeO.ite (LeO.none _) (LeO.ite (LeO.none _) (LeO.ite (LeO.none _) (LeO.bind ?_ fun _ => LeO.bind ?_ fun _ => LeO.ite (LeO.none _) (LeO.bind ?_ fun _ => LeO.refl _))))
 ·exact @expr_parser_union.mono (atomK (a0.size + 1)) _ _ _ _
 ·exact expr_parser_peek.mono _ _ _ _
 ·exact simplify_Within.mono _ _ _ _
end Go.Proofs.Ytjofkebiacaciaa.PAll
end
section
namespace Go.Proofs.Ytjofkebiacaciaa.PAll
open Go.RowKit Go.Proofs.YtjofkebiacaciaaW.PrintWords Go.Proofs.YtjofkebiacaciaaW.PrintLast Go.Proofs.YtjofkebiacaciaaW.PrintMore
attribute [local go_sem] max2_int min2_int max_two min_two max_three min_three max_four min_four
set_option linter.unusedVariables false
set_option linter.unusedSimpArgs false
def semigrouplaw04_awake.f (k : Nat)  : Option (Bool) := (expr_Parse.f k (⟨#[97, 124, 33, 98, 42, 99]⟩ : ByteArray) 3).bind fun bt254 => (if bt254.2.2.2.2 = 0 then (if bt254.2.2.2.1 = 0 then (if bt254.1 = 4 then (if (bt254.2.2.1.length : Int) = 2 then ((expr_Format.f k bt254.1 bt254.2.1 bt254.2.2.1).bind fun t262 => (some (t262.toList == ([97, 124, 33, 98, 42, 99] : List UInt8)))) else (some false)) else (some false)) else (some false)) else (some false))
theorem semigrouplaw04_awake.mono : ∀ k, LeO (semigrouplaw04_awake.f k ) (semigrouplaw04_awake.f (k + 1) ) := by
 intro  k
 unfold semigrouplaw04_awake.f
 repeat' first
   | (with_reducible exact expr_Format.mono _ _ _ _)
   | (with_reducible exact expr_Parse.mono _ _ _)
   | (with_reducible exact LeO.refl _)
   | (with_reducible exact LeO.none _)
   | (with_reducible refine LeO.ite ?_ ?_)
   | (with_reducible refine LeO.bind ?_ (fun _ => ?_))
   | exact expr_Format.mono _ _ _ _
   | exact expr_Parse.mono _ _ _
   | exact LeO.none _
   | refine LeO.ite ?_ ?_
   | refine LeO.bind ?_ (fun _ => ?_)
set_option maxHeartbeats 8000000 in
set_option maxRecDepth 100000 in
theorem semigrouplaw04_awake.calls (k : Nat)  (r : Bool) (w : World) (h : semigrouplaw04_awake.f k  = some r) :
  Calls Try.prog 17 #[] w fun e w' => e = .returned (.bool r) ∧ Below w.heap.size w w' := by
 have hu24 := Try.underlying24
 have HB := Aside0.mk (Below.refl w.heap.size w)
 have H : ((expr_Parse.f k (⟨#[97, 124, 33, 98, 42, 99]⟩ : ByteArray) 3).bind fun bt254 => (if bt254.2.2.2.2 = 0 then (if bt254.2.2.2.1 = 0 then (if bt254.1 = 4 then (if (bt254.2.2.1.length : Int) = 2 then ((expr_Format.f k bt254.1 bt254.2.1 bt254.2.2.1).bind fun t262 => (some (t262.toList == ([97, 124, 33, 98, 42, 99] : List UInt8)))) else (some false)) else (some false)) else (some false)) else (some false))) = some r := h
 clear h
 replace H := Option.bind_eq_some_iff.mp H
 obtain ⟨⟨t254, t255, t256, t259, t260⟩, A10, H⟩ := H
 replace H : (if t260 = 0 then (if t259 = 0 then (if t254 = 4 then (if (t256.length : Int) = 2 then ((expr_Format.f k t254 t255 t256).bind fun t262 => (some (t262.toList == ([97, 124, 33, 98, 42, 99] : List UInt8)))) else (some false)) else (some false)) else (some false)) else (some false)) = some r := H
 have A1 := Aside0.mk A10
 clear A10
 have HC2 := Aside0.mk H
 clear H
 go_enter Try.func17, Try.ntmps17
 go_wp2_with (first | ((with_reducible refine gate_callee (f := 21) rfl ?_); (fail_if_success (have chk_ := HO258)); refine goesL_ (some 5) rfl rfl Try.func21 (by kernel_rfl) rfl #[.string (⟨#[97, 124, 33, 98, 42, 99]⟩ : ByteArray), .int .i64 3] rfl (by (try simp only [List.map_toArray, List.map_cons, List.map_nil]); first | done | rfl | (simp only [List.length_drop, List.length_take]; rfl) | (simp only [Int.ofNat_lt, Int.ofNat_le]; rfl)) ?_; (with_reducible refine (expr_Parse.calls k (⟨#[97, 124, 33, 98, 42, 99]⟩ : ByteArray) 3 t254 t255 t256 t259 t260 _ A1.out).mono ?_); rintro e w3 ⟨v257, rfl, ho0, hb⟩; refine ⟨_, rfl, ?_⟩; have n0_ := Aside0.mk (Kd.V_lower (Kd.V_mono (ok' := fun k_ => True) ho0 (fun k_ hk_ => trivial)) (below_size (bB))); have n1_ := Aside0.mk (below_step (bB) hb); clear HB; have HO258 := n0_; have HB := n1_; clear n0_ n1_; (try clear hb); (try clear hb2); (try clear hk); (try clear hi); (try clear ho0)) | ((with_reducible refine gate_dst (N := 1) rfl ?_); (try (refine gate_guard (by rfl) ?_; dsimp only)); refine box_event ?hg (N := 1) ?hd (cs := #[.int .i64 0, .int .i64 0, .slice none 0 0]) (t := 24) ?hr ?_; (case hd => rfl); (case hg => rfl); (case hr => first | (go_simp; done) | (go_simp; rfl)); intro gb261 hg w4 hbox hb; have n0_ := Aside0.mk (Kd.V_below (Kd.V_elderB (by (with_reducible repeat (first | apply Kd.V_alloc | apply Kd.V_drewN | apply Kd.V_drew)); exact HO258.out) gb261 (Nat.le_of_eq hg.symm)) hb); have n1_ := Aside0.mk (below_step (bB) hb); have n2_ := Aside0.mk (hbox); have n3_ := Aside0.mk ((by rw [hg]; exact (below_size (bB)) : w.heap.size ≤ gb261)); have n4_ := Aside0.mk ((by rw [hg]; exact (below_size (bB)) : w.heap.size ≤ gb261)); clear HO258; clear HB; have HO258 := n0_; have HB := n1_; have BK261 := n2_; have GW261 := n3_; have GE261 := n4_; clear n0_ n1_ n2_ n3_ n4_; clear hb hbox hg; have hcz5_0 : w4.cell? ⟨gb261, 0, none⟩ = some (.int .i64 0) := (blk_cell BK261.out 0).trans rfl; have hcz5_1 : w4.cell? ⟨gb261, 1, none⟩ = some (.int .i64 0) := (blk_cell BK261.out 1).trans rfl; have hcz5_2 : w4.cell? ⟨gb261, 2, none⟩ = some (.slice none 0 0) := (blk_cell BK261.out 2).trans rfl; have hfz5_0 := blk_frozen BK261.out 0; have hfz5_1 := blk_frozen BK261.out 1; have hfz5_2 := blk_frozen BK261.out 2; obtain ⟨Ao6, co6, eo6⟩ := Kd.V_slice HO258.out; subst eo6; refine Go.Proofs.YtjofkebiacaciaaW.PrintWords.FootX.wall_ ?_))
 refine ⟨?_⟩
 (try simp only [Act.put, List.setIfInBounds_toArray, List.set_cons_zero, List.set_cons_succ])
 have H := HC2.out
 clear HC2
 try clear hcz5_0
 try clear hcz5_1
 try clear hcz5_2
 try clear hfz5_0
 try clear hfz5_1
 try clear hfz5_2
 by_cases c7 : t260 = 0
 ·rw [if_pos c7] at H
  have c7b0 : (t260 == 0) = true := beq_iff_eq.mpr c7
  have c7b1 : (t260 != 0) = false := bne_eq_false_iff_eq.mpr c7
  clear c7
  (first | rw [c7b0] | (simp only [i64_w, i32_w]; rw [c7b0]) | skip)
  by_cases c8 : t259 = 0
  ·rw [if_pos c8] at H
   have c8b0 : (t259 == 0) = true := beq_iff_eq.mpr c8
   have c8b1 : (t259 != 0) = false := bne_eq_false_iff_eq.mpr c8
   clear c8
   by_cases c9 : t254 = 4
   ·rw [if_pos c9] at H
    have c9b0 : (t254 == 4) = true := beq_iff_eq.mpr c9
    have c9b1 : (t254 != 4) = false := bne_eq_false_iff_eq.mpr c9
    clear c9
    by_cases c10 : (t256.length : Int) = 2
    ·rw [if_pos c10] at H
     have c10b0 : ((t256.length : Int) == 2) = true := beq_iff_eq.mpr c10
     have c10b1 : ((t256.length : Int) != 2) = false := bne_eq_false_iff_eq.mpr c10
     clear c10
     replace H := Option.bind_eq_some_iff.mp H
     obtain ⟨t262, A110, H⟩ := H
     replace H : (some (t262.toList == ([97, 124, 33, 98, 42, 99] : List UInt8))) = some r := H
     have A11 := Aside0.mk A110
     clear A110
     obtain rfl := Option.some.inj H
     have hcz12_0 : w4.cell? ⟨gb261, 0, none⟩ = some (.int .i64 0) := (blk_cell BK261.out 0).trans rfl
     have hcz12_1 : w4.cell? ⟨gb261, 1, none⟩ = some (.int .i64 0) := (blk_cell BK261.out 1).trans rfl
     have hcz12_2 : w4.cell? ⟨gb261, 2, none⟩ = some (.slice none 0 0) := (blk_cell BK261.out 2).trans rfl
     have hfz12_0 := blk_frozen BK261.out 0
     have hfz12_1 := blk_frozen BK261.out 1
     have hfz12_2 := blk_frozen BK261.out 2
     go_wp2_with (first | (go_at_call 18; (with_reducible refine (expr_Format.calls k t254 t255 _ _ t256 t262 _ ?side1 ?side2 A11.out).mono ?_); (case side1 => refine (Kd.V_reads' (e := 24) (base := w.heap.size) (ok := fun k_ => (True ∧ k_ ≠ gb261)) (n := t256.length) (c := co6) ?_).2.2; exact (by (with_reducible repeat (first | apply Kd.V_alloc | apply Kd.V_drewN | apply Kd.V_drew)); exact (Kd.V_mono (Kd.V_far (p := ⟨gb261, 2, none⟩) (Kd.V_far (p := ⟨gb261, 1, none⟩) (Kd.V_far (p := ⟨gb261, 0, none⟩) (Kd.V_mono HO258.out (fun k_ hk => (⟨hk, hk.2⟩ : _ ∧ k_ ≠ gb261))) (fun _ hk => hk.2) (.int .i64 t254)) (fun _ hk => hk.2) (.int .i64 t255)) (fun _ hk => hk.2) (.slice Ao6 t256.length co6)) (fun _ h_ => h_.1)))); (case side2 => exact (Kd.V_reads' HO258.out).2.1); rintro e w13 ⟨rfl, hb⟩; have n0_ := Aside0.mk (Kd.V_below (by (with_reducible repeat (first | apply Kd.V_alloc | apply Kd.V_drewN | apply Kd.V_drew)); exact (Kd.V_mono (Kd.V_far (p := ⟨gb261, 2, none⟩) (Kd.V_far (p := ⟨gb261, 1, none⟩) (Kd.V_far (p := ⟨gb261, 0, none⟩) (Kd.V_mono HO258.out (fun k_ hk => (⟨hk, hk.2⟩ : _ ∧ k_ ≠ gb261))) (fun _ hk => hk.2) (.int .i64 t254)) (fun _ hk => hk.2) (.int .i64 t255)) (fun _ hk => hk.2) (.slice Ao6 t256.length co6)) (fun _ h_ => h_.1))) hb); have n1_ := Aside0.mk (blk_below (g := gb261) (o := .cells #[.int .i64 t254, .int .i64 t255, .slice Ao6 t256.length co6] 24 (0, 0)) (by (with_reducible repeat (first | refine blk_drewN ?_ _ | refine blk_drew ?_ | refine blk_alloc ?_ _)); refine blk_put (cs := #[.int .i64 t254, .int .i64 t255, .slice none 0 0]) ?_ 2 _ rfl; (with_reducible repeat (first | refine blk_drewN ?_ _ | refine blk_drew ?_ | refine blk_alloc ?_ _)); refine blk_put (cs := #[.int .i64 t254, .int .i64 0, .slice none 0 0]) ?_ 1 _ rfl; (with_reducible repeat (first | refine blk_drewN ?_ _ | refine blk_drew ?_ | refine blk_alloc ?_ _)); refine blk_put (cs := #[.int .i64 0, .int .i64 0, .slice none 0 0]) ?_ 0 _ rfl; (with_reducible repeat (first | refine blk_drewN ?_ _ | refine blk_drew ?_ | refine blk_alloc ?_ _)); exact BK261.out) hb); have n2_ := Aside0.mk (below_step (bB) hb); clear HO258; clear BK261; clear HB; have HO258 := n0_; have BK261 := n1_; have HB := n2_; clear n0_ n1_ n2_; (try clear hb); (try clear hb2); (try clear hk); (try clear hi)))
     go_ret
     exact ⟨by first | rfl | (simp [errW_none, errW_some] <;> rfl) | (simp [*, errW_none, errW_some] <;> rfl), bB⟩
    ·rw [if_neg c10] at H
     have c10b0 : ((t256.length : Int) == 2) = false := beq_eq_false_iff_ne.mpr c10
     have c10b1 : ((t256.length : Int) != 2) = true := bne_iff_ne.mpr c10
     obtain rfl := Option.some.inj H
     have hcz14_0 : w4.cell? ⟨gb261, 0, none⟩ = some (.int .i64 0) := (blk_cell BK261.out 0).trans rfl
     have hcz14_1 : w4.cell? ⟨gb261, 1, none⟩ = some (.int .i64 0) := (blk_cell BK261.out 1).trans rfl
     have hcz14_2 : w4.cell? ⟨gb261, 2, none⟩ = some (.slice none 0 0) := (blk_cell BK261.out 2).trans rfl
     have hfz14_0 := blk_frozen BK261.out 0
     have hfz14_1 := blk_frozen BK261.out 1
     have hfz14_2 := blk_frozen BK261.out 2
     go_wp2
     go_ret
     exact ⟨by first | rfl | (simp [errW_none, errW_some] <;> rfl) | (simp [*, errW_none, errW_some] <;> rfl), bB⟩
   ·rw [if_neg c9] at H
    have c9b0 : (t254 == 4) = false := beq_eq_false_iff_ne.mpr c9
    have c9b1 : (t254 != 4) = true := bne_iff_ne.mpr c9
    obtain rfl := Option.some.inj H
    have hcz15_0 : w4.cell? ⟨gb261, 0, none⟩ = some (.int .i64 0) := (blk_cell BK261.out 0).trans rfl
    have hcz15_1 : w4.cell? ⟨gb261, 1, none⟩ = some (.int .i64 0) := (blk_cell BK261.out 1).trans rfl
    have hcz15_2 : w4.cell? ⟨gb261, 2, none⟩ = some (.slice none 0 0) := (blk_cell BK261.out 2).trans rfl
    have hfz15_0 := blk_frozen BK261.out 0
    have hfz15_1 := blk_frozen BK261.out 1
    have hfz15_2 := blk_frozen BK261.out 2
    go_wp2
    go_ret
    exact ⟨by first | rfl | (simp [errW_none, errW_some] <;> rfl) | (simp [*, errW_none, errW_some] <;> rfl), bB⟩
  ·rw [if_neg c8] at H
   have c8b0 : (t259 == 0) = false := beq_eq_false_iff_ne.mpr c8
   have c8b1 : (t259 != 0) = true := bne_iff_ne.mpr c8
   obtain rfl := Option.some.inj H
   have hcz16_0 : w4.cell? ⟨gb261, 0, none⟩ = some (.int .i64 0) := (blk_cell BK261.out 0).trans rfl
   have hcz16_1 : w4.cell? ⟨gb261, 1, none⟩ = some (.int .i64 0) := (blk_cell BK261.out 1).trans rfl
   have hcz16_2 : w4.cell? ⟨gb261, 2, none⟩ = some (.slice none 0 0) := (blk_cell BK261.out 2).trans rfl
   have hfz16_0 := blk_frozen BK261.out 0
   have hfz16_1 := blk_frozen BK261.out 1
   have hfz16_2 := blk_frozen BK261.out 2
   go_wp2
   go_ret
   exact ⟨by first | rfl | (simp [errW_none, errW_some] <;> rfl) | (simp [*, errW_none, errW_some] <;> rfl), bB⟩
 ·rw [if_neg c7] at H
  have c7b0 : (t260 == 0) = false := beq_eq_false_iff_ne.mpr c7
  have c7b1 : (t260 != 0) = true := bne_iff_ne.mpr c7
  (first | rw [c7b0] | (simp only [i64_w, i32_w]; rw [c7b0]) | skip)
  obtain rfl := Option.some.inj H
  have hcz17_0 : w4.cell? ⟨gb261, 0, none⟩ = some (.int .i64 0) := (blk_cell BK261.out 0).trans rfl
  have hcz17_1 : w4.cell? ⟨gb261, 1, none⟩ = some (.int .i64 0) := (blk_cell BK261.out 1).trans rfl
  have hcz17_2 : w4.cell? ⟨gb261, 2, none⟩ = some (.slice none 0 0) := (blk_cell BK261.out 2).trans rfl
  have hfz17_0 := blk_frozen BK261.out 0
  have hfz17_1 := blk_frozen BK261.out 1
  have hfz17_2 := blk_frozen BK261.out 2
  go_wp2
  go_ret
  exact ⟨by first | rfl | (simp [errW_none, errW_some] <;> rfl) | (simp [*, errW_none, errW_some] <;> rfl), bB⟩
end Go.Proofs.Ytjofkebiacaciaa.PAll
end
section
namespace Go.Proofs.Ytjofkebiacaciaa.PAll
open Go.RowKit Go.Proofs.YtjofkebiacaciaaW.PrintWords Go.Proofs.YtjofkebiacaciaaW.PrintLast Go.Proofs.YtjofkebiacaciaaW.PrintMore
attribute [local go_sem] max2_int min2_int max_two min_two max_three min_three max_four min_four
set_option linter.unusedVariables false
set_option linter.unusedSimpArgs false
mutual
def semigroupref04_measure.l0 : Nat → Int → Int → Int → Int → Int → Int → List (S24) → Option (Int × Int)
 | 0, _, _, _, _, _, _, _ => none
 | k + 1, x1, x6, x7, x8, x264000, x264001, x264002 => if x8 < (x264002.length : Int) then (if x6 ≤ x1 then (if 0 ≤ x8 then ((semigroupref04_measure.f k ((rd_T24 x264002 x8).f0) ((rd_T24 x264002 x8).f1) ((rd_T24 x264002 x8).f2) x1).bind fun bt265 => (semigroupref04_measure.l0 k x1 (mn (wrap64 (x6 + bt265.1)) (wrap64 (x1 + 1))) (mx x7 bt265.2) (wrap64 (x8 + 1)) x264000 x264001 x264002)) else (none)) else (some (x6, wrap64 (x7 + 1)))) else (some (x6, wrap64 (x7 + 1)))
def semigroupref04_measure.f : Nat → Int → Int → List (S24) → Int → Option (Int × Int)
 | 0, _, _, _, _ => none
 | k + 1, a0_0, a0_1, l0_2, a1 => semigroupref04_measure.l0 k a1 1 0 0 a0_0 a0_1 l0_2
end
theorem semigroupref04_measure.mono_l : ∀ k, (∀ y0 y1 y2 y3, LeO (semigroupref04_measure.f k y0 y1 y2 y3) (semigroupref04_measure.f (k + 1) y0 y1 y2 y3)) ∧ (∀ y0 y1 y2 y3 y4 y5 y6, LeO (semigroupref04_measure.l0 k y0 y1 y2 y3 y4 y5 y6) (semigroupref04_measure.l0 (k + 1) y0 y1 y2 y3 y4 y5 y6))
 | 0 => ⟨fun _ _ _ _ r h => by simp [semigroupref04_measure.f] at h, fun _ _ _ _ _ _ _ r h => by simp [semigroupref04_measure.l0] at h⟩
 | k + 1 => by
  obtain ⟨ih0, ih1⟩ := semigroupref04_measure.mono_l k
  refine ⟨?_, ?_⟩
  ·intro y0 y1 y2 y3
   unfold semigroupref04_measure.f
   repeat' first
   | (with_reducible exact ih0 _ _ _ _)
   | (with_reducible exact ih1 _ _ _ _ _ _ _)
   | (with_reducible exact LeO.refl _)
   | (with_reducible exact LeO.none _)
   | (with_reducible refine LeO.ite ?_ ?_)
   | (with_reducible refine LeO.bind ?_ (fun _ => ?_))
   | exact ih0 _ _ _ _
   | exact ih1 _ _ _ _ _ _ _
   | exact LeO.none _
   | refine LeO.ite ?_ ?_
   | refine LeO.bind ?_ (fun _ => ?_)
  ·intro y0 y1 y2 y3 y4 y5 y6
   unfold semigroupref04_measure.l0
   repeat' first
   | (with_reducible exact ih0 _ _ _ _)
   | (with_reducible exact ih1 _ _ _ _ _ _ _)
   | (with_reducible exact LeO.refl _)
   | (with_reducible exact LeO.none _)
   | (with_reducible refine LeO.ite ?_ ?_)
   | (with_reducible refine LeO.bind ?_ (fun _ => ?_))
   | exact ih0 _ _ _ _
   | exact ih1 _ _ _ _ _ _ _
   | exact LeO.none _
   | refine LeO.ite ?_ ?_
   | refine LeO.bind ?_ (fun _ => ?_)
theorem semigroupref04_measure.mono : ∀ a0 a1 a2 a3 k, LeO (semigroupref04_measure.f k a0 a1 a2 a3) (semigroupref04_measure.f (k + 1) a0 a1 a2 a3) := by
 intro a0 a1 a2 a3 k
 obtain ⟨ih0, ih1⟩ := semigroupref04_measure.mono_l k
 exact ih0 a0 a1 a2 a3
set_option maxHeartbeats 8000000 in
set_option maxRecDepth 100000 in
theorem semigroupref04_measure.calls (k : Nat) : ∀ (a0_0 : Int) (a0_1 : Int) (A0_2 : Option Addr) (c0_2 : Nat) (l0_2 : List (S24)) (a1 : Int) (r1 : Int) (r2 : Int) (w : World) (hr0_2 : Kd.C k24 w A0_2 l0_2.length l0_2) (hc0_2 : l0_2.length ≤ c0_2) (h : semigroupref04_measure.f k a0_0 a0_1 l0_2 a1 = some (r1, r2)),
  Calls Try.prog 58 #[.agg #[.int .i64 a0_0, .int .i64 a0_1, .slice A0_2 l0_2.length c0_2], .int .i64 a1] w fun e w' => e = .returned (.tuple #[.int .i64 r1, .int .i64 r2]) ∧ Below w.heap.size w w' := by
 induction k using Nat.strongRecOn with
 | _ k ih =>
 intro a0_0 a0_1 A0_2 c0_2 l0_2 a1 r1 r2 w hr0_2 hc0_2 h
 cases k with
 | zero => exact absurd h (by simp [semigroupref04_measure.f])
 | succ k =>
 simp only [semigroupref04_measure.f] at h
 have hu24 := Try.underlying24
 have HR0_2 := Aside0.mk hr0_2
 have HC0_2 := Aside0.mk hc0_2
 clear hr0_2 hc0_2
 have HB := Aside0.mk (Below.refl w.heap.size w)
 have H : (semigroupref04_measure.l0 k a1 1 0 0 a0_0 a0_1 l0_2) = some (r1, r2) := h
 clear h
 have H' := Aside0.mk H
 clear H
 go_enter Try.func58, Try.ntmps58
 go_wp2_with (first | ((with_reducible refine gate_dst (N := 2) rfl ?_); refine box_event ?hg (N := 2) ?hd (cs := #[.int .i64 a0_0, .int .i64 a0_1, .slice A0_2 l0_2.length c0_2]) (t := 24) ?hr ?_; (case hd => rfl); (case hg => rfl); (case hr => first | (go_simp; done) | (go_simp; rfl)); intro gb263 hg w3 hbox hb; have n0_ := Aside0.mk (below_step (bB) hb); have n1_ := Aside0.mk (hbox); have n2_ := Aside0.mk ((by rw [hg]; exact (below_size (bB)) : w.heap.size ≤ gb263)); have n3_ := Aside0.mk ((by rw [hg]; exact (below_size (bB)) : w.heap.size ≤ gb263)); clear HB; have HB := n0_; have BK263 := n1_; have GW263 := n2_; have GE263 := n3_; clear n0_ n1_ n2_ n3_; clear hb hbox hg))
 go_loopg [6, 7, 8] k (fun kq v6 v7 v8 w' => ∃ (x6_1 : Int) (x7_1 : Int) (x8_1 : Int), v6 = .int .i64 x6_1 ∧ v7 = .int .i64 x7_1 ∧ v8 = .int .i64 x8_1 ∧ Aside0 (semigroupref04_measure.l0 kq a1 x6_1 x7_1 x8_1 a0_0 a0_1 l0_2 = some (r1, r2)) ∧ Aside0 (kq ≤ k) ∧ Aside0 (w'.heap[gb263]? = some (.cells #[.int .i64 a0_0, .int .i64 a0_1, (.slice A0_2 l0_2.length c0_2)] 24 (0, 0))) ∧ Aside0 (Below w.heap.size w w'))
 case atStart => exact ⟨(1), (0), (0), (by first | rfl | (simp; done) | (simp [*]; done)), (by first | rfl | (simp; done) | (simp [*]; done)), (by first | rfl | (simp; done) | (simp [*]; done)), H', ⟨Nat.le_refl _⟩, ⟨bK⟩, ⟨bB⟩⟩
 case round =>
  clear H'
  obtain ⟨x6_1, x7_1, x8_1, rfl, rfl, rfl, HA, HK1, BK263, HB⟩ := hrel
  cases gk with
  | zero => exact absurd HA.out (by simp [semigroupref04_measure.l0])
  | succ k1 =>
   have H := HA.out
   clear HA
   simp only [semigroupref04_measure.l0] at H
   by_cases c4 : x8_1 < (l0_2.length : Int)
   ·rw [if_pos c4] at H
    have c4b0 : decide (x8_1 < (l0_2.length : Int)) = true := decide_eq_true c4
    clear c4
    by_cases c5 : x6_1 ≤ a1
    ·rw [if_pos c5] at H
     have c5b0 : decide (x6_1 ≤ a1) = true := decide_eq_true c5
     clear c5
     by_cases c6 : 0 ≤ x8_1
     ·rw [if_pos c6] at H
      have c6b0 : decide (0 ≤ x8_1) = true := decide_eq_true c6
      clear c6
      replace H := Option.bind_eq_some_iff.mp H
      obtain ⟨⟨t265, t266⟩, A70, H⟩ := H
      replace H : (semigroupref04_measure.l0 k1 a1 (mn (wrap64 (x6_1 + t265)) (wrap64 (a1 + 1))) (mx x7_1 t266) (wrap64 (x8_1 + 1)) a0_0 a0_1 l0_2) = some (r1, r2) := H
      have A7 := Aside0.mk A70
      clear A70
      obtain ⟨ji8, hji8⟩ : ∃ j_ : Int, (mn (wrap64 (x6_1 + t265)) (wrap64 (a1 + 1))) = j_ := ⟨_, rfl⟩
      replace H : (semigroupref04_measure.l0 k1 a1 ji8 (mx x7_1 t266) (wrap64 (x8_1 + 1)) a0_0 a0_1 l0_2) = some (r1, r2) := by first | (rw [hji8] at H; exact H) | (simp only [hji8] at H ⊢; exact H)
      (try rw [hji8] at A7)
      have hji8_ : (if (wrap64 (a1 + 1)) < (wrap64 (x6_1 + t265)) then (wrap64 (a1 + 1)) else (wrap64 (x6_1 + t265))) = ji8 := hji8
      obtain ⟨ji9, hji9⟩ : ∃ j_ : Int, (mx x7_1 t266) = j_ := ⟨_, rfl⟩
      replace H : (semigroupref04_measure.l0 k1 a1 ji8 ji9 (wrap64 (x8_1 + 1)) a0_0 a0_1 l0_2) = some (r1, r2) := by first | (rw [hji9] at H; exact H) | (simp only [hji9] at H ⊢; exact H)
      (try rw [hji9] at A7)
      have hji9_ : (if x7_1 < t266 then t266 else x7_1) = ji9 := hji9
      have H' := Aside0.mk H
      clear H
      have hcz10_0 : wr.cell? ⟨gb263, 0, none⟩ = some (.int .i64 a0_0) := (blk_cell BK263.out 0).trans rfl
      have hcz10_1 : wr.cell? ⟨gb263, 1, none⟩ = some (.int .i64 a0_1) := (blk_cell BK263.out 1).trans rfl
      have hcz10_2 : wr.cell? ⟨gb263, 2, none⟩ = some (.slice A0_2 l0_2.length c0_2) := (blk_cell BK263.out 2).trans rfl
      have hfz10_0 := blk_frozen BK263.out 0
      have hfz10_1 := blk_frozen BK263.out 1
      have hfz10_2 := blk_frozen BK263.out 2
      have p264 : 0 ≤ (x8_1 : Int) := of_decide_eq_true (by first | (with_reducible assumption) | assumption)
      have q264 : x8_1 < (l0_2.length : Int) := of_decide_eq_true (by first | (with_reducible assumption) | assumption)
      obtain ⟨ad264, A264_2, c264_2, e264, hx264_0, hx264_1, hx264_2, hl264_2, hi264_2⟩ := at_T24 HR0_2.out x8_1 p264 q264
      cases e264
      replace hx264_0 := (HB.out.cell (World.block_lt_of_cell? w _ hx264_0)).trans hx264_0
      replace hx264_1 := (HB.out.cell (World.block_lt_of_cell? w _ hx264_1)).trans hx264_1
      replace hx264_2 := (HB.out.cell (World.block_lt_of_cell? w _ hx264_2)).trans hx264_2
      have HR264_2 := Aside0.mk hi264_2
      have HC264_2 := Aside0.mk hl264_2
      clear hi264_2 hl264_2
      replace p264 := eq_true p264
      replace q264 := eq_true q264
      go_wp2_with (first | ((with_reducible refine gate_callee (f := 58) rfl ?_); refine goesL_ (some 30) rfl rfl Try.func58 (by kernel_rfl) rfl #[.agg #[.int .i64 ((rd_T24 l0_2 x8_1).f0), .int .i64 ((rd_T24 l0_2 x8_1).f1), .slice A264_2 ((rd_T24 l0_2 x8_1).f2).length c264_2], .int .i64 a1] rfl (by (try simp only [List.map_toArray, List.map_cons, List.map_nil]); first | done | rfl | (simp only [List.length_drop, List.length_take]; rfl) | (simp only [Int.ofNat_lt, Int.ofNat_le]; rfl)) ?_; (with_reducible refine (ih k1 (by have := HK1.out; omega) ((rd_T24 l0_2 x8_1).f0) ((rd_T24 l0_2 x8_1).f1) _ _ ((rd_T24 l0_2 x8_1).f2) a1 t265 t266 _ ?side1 ?side2 A7.out).mono ?_); (case side1 => repeat (first | exact (Kd.C_below HR264_2.out HB.out) | (with_reducible refine Kd.C_alloc ?_ _) | (with_reducible refine Kd.C_drewN ?_ _) | (with_reducible refine Kd.C_drew ?_))); (case side2 => exact HC264_2.out); rintro e w11 ⟨rfl, hb⟩; refine ⟨_, rfl, ?_⟩; have n0_ := Aside0.mk (blk_below (g := gb263) (o := .cells #[.int .i64 a0_0, .int .i64 a0_1, .slice (some ad264) l0_2.length c0_2] 24 (0, 0)) (bK) hb); have n1_ := Aside0.mk (below_step (bB) hb); clear BK263; clear HB; have BK263 := n0_; have HB := n1_; clear n0_ n1_; (try clear hb); (try clear hb2); (try clear hk); (try clear hi)))
      (first | go_roundg k1 | ((simp only [add_plain] at *); go_roundg k1))
      case measure => have := HK1.out; omega
      case rel => exact ⟨(ji8), (ji9), (wrap64 (x8_1 + 1)), (by first | rfl | (simp; done) | (simp only [← hji8] <;> (first | rfl | simp)) | (simp [*]; done)), (by first | rfl | (simp; done) | (simp only [← hji9] <;> (first | rfl | simp)) | (simp [*]; done)), (by first | rfl | (simp; done) | (simp [*]; done)), H', ⟨by have := HK1.out; omega⟩, ⟨bK⟩, ⟨bB⟩⟩
     ·rw [if_neg c6] at H
      exact absurd H (by simp)
    ·rw [if_neg c5] at H
     have c5b0 : decide (x6_1 ≤ a1) = false := decide_eq_false c5
     clear c5
     simp only [Option.some.injEq, Prod.mk.injEq] at H
     obtain ⟨rfl, rfl⟩ := H
     have hcz12_0 : wr.cell? ⟨gb263, 0, none⟩ = some (.int .i64 a0_0) := (blk_cell BK263.out 0).trans rfl
     have hcz12_1 : wr.cell? ⟨gb263, 1, none⟩ = some (.int .i64 a0_1) := (blk_cell BK263.out 1).trans rfl
     have hcz12_2 : wr.cell? ⟨gb263, 2, none⟩ = some (.slice A0_2 l0_2.length c0_2) := (blk_cell BK263.out 2).trans rfl
     have hfz12_0 := blk_frozen BK263.out 0
     have hfz12_1 := blk_frozen BK263.out 1
     have hfz12_2 := blk_frozen BK263.out 2
     go_wp2
     go_ret2
     exact ⟨by first | rfl | (simp [errW_none, errW_some] <;> rfl) | (simp [*, errW_none, errW_some] <;> rfl), bB⟩
   ·rw [if_neg c4] at H
    have c4b0 : decide (x8_1 < (l0_2.length : Int)) = false := decide_eq_false c4
    clear c4
    simp only [Option.some.injEq, Prod.mk.injEq] at H
    obtain ⟨rfl, rfl⟩ := H
    have hcz13_0 : wr.cell? ⟨gb263, 0, none⟩ = some (.int .i64 a0_0) := (blk_cell BK263.out 0).trans rfl
    have hcz13_1 : wr.cell? ⟨gb263, 1, none⟩ = some (.int .i64 a0_1) := (blk_cell BK263.out 1).trans rfl
    have hcz13_2 : wr.cell? ⟨gb263, 2, none⟩ = some (.slice A0_2 l0_2.length c0_2) := (blk_cell BK263.out 2).trans rfl
    have hfz13_0 := blk_frozen BK263.out 0
    have hfz13_1 := blk_frozen BK263.out 1
    have hfz13_2 := blk_frozen BK263.out 2
    go_wp2
    go_ret2
    exact ⟨by first | rfl | (simp [errW_none, errW_some] <;> rfl) | (simp [*, errW_none, errW_some] <;> rfl), bB⟩
end Go.Proofs.Ytjofkebiacaciaa.PAll
end
section
namespace Go.Proofs.Ytjofkebiacaciaa.PAll
open Go.RowKit Go.Proofs.YtjofkebiacaciaaW.PrintWords Go.Proofs.YtjofkebiacaciaaW.PrintLast Go.Proofs.YtjofkebiacaciaaW.PrintMore
attribute [local go_sem] max2_int min2_int max_two min_two max_three min_three max_four min_four
set_option linter.unusedVariables false
set_option linter.unusedSimpArgs false
def semigroupref04_Within.f (k : Nat) (a0_0 : Int) (a0_1 : Int) (l0_2 : List (S24)) : Option (Bool) := (semigroupref04_measure.f k a0_0 a0_1 l0_2 400).bind fun bt396 => (if bt396.1 ≤ 400 then (some (decide (bt396.2 ≤ 40))) else (some false))
theorem semigroupref04_Within.mono : ∀ a0 a1 a2 k, LeO (semigroupref04_Within.f k a0 a1 a2) (semigroupref04_Within.f (k + 1) a0 a1 a2) := by
 intro a0 a1 a2 k
 unfold semigroupref04_Within.f
 repeat' first
   | (with_reducible exact semigroupref04_measure.mono _ _ _ _ _)
   | (with_reducible exact LeO.refl _)
   | (with_reducible exact LeO.none _)
   | (with_reducible refine LeO.ite ?_ ?_)
   | (with_reducible refine LeO.bind ?_ (fun _ => ?_))
   | exact semigroupref04_measure.mono _ _ _ _ _
   | exact LeO.none _
   | refine LeO.ite ?_ ?_
   | refine LeO.bind ?_ (fun _ => ?_)
set_option maxHeartbeats 8000000 in
set_option maxRecDepth 100000 in
theorem semigroupref04_Within.calls (k : Nat) (a0_0 : Int) (a0_1 : Int) (A0_2 : Option Addr) (c0_2 : Nat) (l0_2 : List (S24)) (r : Bool) (w : World) (hr0_2 : Kd.C k24 w A0_2 l0_2.length l0_2) (hc0_2 : l0_2.length ≤ c0_2) (h : semigroupref04_Within.f k a0_0 a0_1 l0_2 = some r) :
  Calls Try.prog 44 #[.agg #[.int .i64 a0_0, .int .i64 a0_1, .slice A0_2 l0_2.length c0_2]] w fun e w' => e = .returned (.bool r) ∧ Below w.heap.size w w' := by
 have hu24 := Try.underlying24
 have HR0_2 := Aside0.mk hr0_2
 have HC0_2 := Aside0.mk hc0_2
 clear hr0_2 hc0_2
 have HB := Aside0.mk (Below.refl w.heap.size w)
 have H : ((semigroupref04_measure.f k a0_0 a0_1 l0_2 400).bind fun bt396 => (if bt396.1 ≤ 400 then (some (decide (bt396.2 ≤ 40))) else (some false))) = some r := h
 clear h
 replace H := Option.bind_eq_some_iff.mp H
 obtain ⟨⟨t396, t397⟩, A20, H⟩ := H
 replace H : (if t396 ≤ 400 then (some (decide (t397 ≤ 40))) else (some false)) = some r := H
 have A2 := Aside0.mk A20
 clear A20
 have HC3 := Aside0.mk H
 clear H
 go_enter Try.func44, Try.ntmps44
 go_wp2_with (first | ((with_reducible refine gate_dst (N := 1) rfl ?_); refine box_event ?hg (N := 1) ?hd (cs := #[.int .i64 a0_0, .int .i64 a0_1, .slice A0_2 l0_2.length c0_2]) (t := 24) ?hr ?_; (case hd => rfl); (case hg => rfl); (case hr => first | (go_simp; done) | (go_simp; rfl)); intro gb395 hg w4 hbox hb; have n0_ := Aside0.mk (below_step (bB) hb); have n1_ := Aside0.mk (hbox); have n2_ := Aside0.mk ((by rw [hg]; exact (below_size (bB)) : w.heap.size ≤ gb395)); have n3_ := Aside0.mk ((by rw [hg]; exact (below_size (bB)) : w.heap.size ≤ gb395)); clear HB; have HB := n0_; have BK395 := n1_; have GW395 := n2_; have GE395 := n3_; clear n0_ n1_ n2_ n3_; clear hb hbox hg; have hcz5_0 : w4.cell? ⟨gb395, 0, none⟩ = some (.int .i64 a0_0) := (blk_cell BK395.out 0).trans rfl; have hcz5_1 : w4.cell? ⟨gb395, 1, none⟩ = some (.int .i64 a0_1) := (blk_cell BK395.out 1).trans rfl; have hcz5_2 : w4.cell? ⟨gb395, 2, none⟩ = some (.slice A0_2 l0_2.length c0_2) := (blk_cell BK395.out 2).trans rfl; have hfz5_0 := blk_frozen BK395.out 0; have hfz5_1 := blk_frozen BK395.out 1; have hfz5_2 := blk_frozen BK395.out 2) | ((with_reducible refine gate_callee (f := 58) rfl ?_); refine goesL_ (some 7) rfl rfl Try.func58 (by kernel_rfl) rfl #[.agg #[.int .i64 a0_0, .int .i64 a0_1, .slice A0_2 l0_2.length c0_2], .int .i64 400] rfl (by (try simp only [List.map_toArray, List.map_cons, List.map_nil]); first | done | rfl | (simp only [List.length_drop, List.length_take]; rfl) | (simp only [Int.ofNat_lt, Int.ofNat_le]; rfl)) ?_; (with_reducible refine (semigroupref04_measure.calls k a0_0 a0_1 _ _ l0_2 400 t396 t397 _ ?side1 ?side2 A2.out).mono ?_); (case side1 => repeat (first | exact (Kd.C_below HR0_2.out HB.out) | (with_reducible refine Kd.C_alloc ?_ _) | (with_reducible refine Kd.C_drewN ?_ _) | (with_reducible refine Kd.C_drew ?_))); (case side2 => exact HC0_2.out); rintro e w6 ⟨rfl, hb⟩; refine ⟨_, rfl, ?_⟩; have n0_ := Aside0.mk (blk_below (g := gb395) (o := .cells #[.int .i64 a0_0, .int .i64 a0_1, .slice A0_2 l0_2.length c0_2] 24 (0, 0)) (bK) hb); have n1_ := Aside0.mk (below_step (bB) hb); clear BK395; clear HB; have BK395 := n0_; have HB := n1_; clear n0_ n1_; (try clear hb); (try clear hb2); (try clear hk); (try clear hi); refine Go.Proofs.YtjofkebiacaciaaW.PrintWords.FootX.wall_ ?_))
 refine ⟨?_⟩
 (try simp only [Act.put, List.setIfInBounds_toArray, List.set_cons_zero, List.set_cons_succ])
 have H := HC3.out
 clear HC3
 try clear hcz5_0
 try clear hcz5_1
 try clear hcz5_2
 try clear hfz5_0
 try clear hfz5_1
 try clear hfz5_2
 by_cases c7 : t396 ≤ 400
 ·rw [if_pos c7] at H
  have c7b0 : decide (t396 ≤ 400) = true := decide_eq_true c7
  clear c7
  (first | rw [c7b0] | (simp only [i64_w, i32_w]; rw [c7b0]) | skip)
  obtain rfl := Option.some.inj H
  go_wp2
  go_ret
  exact ⟨by first | rfl | (simp [errW_none, errW_some] <;> rfl) | (simp [*, errW_none, errW_some] <;> rfl), bB⟩
 ·rw [if_neg c7] at H
  have c7b0 : decide (t396 ≤ 400) = false := decide_eq_false c7
  clear c7
  (first | rw [c7b0] | (simp only [i64_w, i32_w]; rw [c7b0]) | skip)
  obtain rfl := Option.some.inj H
  go_wp2
  go_ret
  exact ⟨by first | rfl | (simp [errW_none, errW_some] <;> rfl) | (simp [*, errW_none, errW_some] <;> rfl), bB⟩
end Go.Proofs.Ytjofkebiacaciaa.PAll
end
section
namespace Go.Proofs.Ytjofkebiacaciaa.AllRead24
set_option linter.all false
open Go Go.RowKit Go.ChangeShapes Go.WideShapes Go.ChangeAt Go.Proofs.Ytjofkebiacaciaa.PAll Go.Proofs.YtjofkebiacaciaaW.PrintWords Go.Proofs.YtjofkebiacaciaaW.PrintLast
inductive WF : S24 → Prop where
 | mk (e : S24) (h0 : (Lit.int .i64 e.f0).wf = true) (h1 : (Lit.int .i64 e.f1).wf = true) (h2 : e.f2.length ≤ maxLen) (h3 : ∀ k, k ∈ e.f2 → WF k) : WF e
theorem WF.n0 {e : S24} (h : WF e) : (Lit.int .i64 e.f0).wf = true := by cases h; assumption
theorem WF.n1 {e : S24} (h : WF e) : (Lit.int .i64 e.f1).wf = true := by cases h; assumption
theorem WF.len {e : S24} (h : WF e) : e.f2.length ≤ maxLen := by cases h; assumption
theorem WF.kid {e : S24} (h : WF e) {k : S24} (hk : k ∈ e.f2) : WF k := by cases h with | mk _ _ _ _ h3 => exact h3 k hk
theorem choose_list {α : Type} {n : Nat} {P : Nat → α → Prop} (h : ∀ i, i < n → ∃ a, P i a) : ∃ l : List α, l.length = n ∧ ∀ i a, l[i]? = some a → P i a := by
 induction n with
 | zero => exact ⟨[], rfl, fun i a h => by simp at h⟩
 | succ n ih =>
  obtain ⟨l, hl, hp⟩ := ih (fun i hi => h i (by omega))
  obtain ⟨a, ha⟩ := h n (by omega)
  refine ⟨l ++ [a], by simp [hl], fun i b hb => ?_⟩
  by_cases hi : i < n
  ·rw [List.getElem?_append_left (by omega)] at hb; exact hp i b hb
  ·rw [List.getElem?_append_right (by omega)] at hb
   have hi' : i - l.length = 0 := by
    cases hq : i - l.length with
    | zero => rfl
    | succ m => rw [hq] at hb; simp at hb
   rw [hi'] at hb
   have : i = n := by omega
   subst this
   obtain rfl : a = b := by simpa using hb
   exact ha
theorem read_tree {H : Type} {enc : TypeId × Value → H} {W : World} {base : Nat} {sp : Nat → Bool} {held : Bool} : ∀ (fuel : Nat) (cs : List Value) (x : DataW H × List MemPlace),
  DataW.trod enc Try.prog W base sp held fuel 24 cs = some x → ∃ e : S24, k24.K W e cs ∧ WF e := by
 intro fuel
 induction fuel using Nat.strongRecOn with
 | _ fuel ih =>
 intro cs x h
 obtain ⟨xs, n, rfl, _, hlen, hxs, hel⟩ := DataW.trod_struct Try.underlying24 h
 have c24 : Try.prog.cellsOf 24 = 3 := by kernel_rfl
 have c3 : Try.prog.cellsOf 3 = 1 := by kernel_rfl
 have c22 : Try.prog.cellsOf 22 = 1 := by kernel_rfl
 rw [c24] at hlen
 obtain ⟨v0, v1, v2, rfl⟩ : ∃ v0 v1 v2, cs = [v0, v1, v2] := by
  match cs, hlen with
  | [a, b, c], _ => exact ⟨a, b, c, rfl⟩
 have hxl : xs.length = 3 := hxs
 obtain ⟨y0, y1, y2, rfl⟩ : ∃ y0 y1 y2, xs = [y0, y1, y2] := by
  match xs, hxl with
  | [a, b, c], _ => exact ⟨a, b, c, rfl⟩
 have e0 := hel 0 _ rfl
 have e1 := hel 1 _ rfl
 have e2 := hel 2 _ rfl
 simp only [c3, c22, List.drop_zero, List.take_succ_cons, List.take_zero, List.getElem?_cons_zero, List.getElem?_cons_succ, List.drop_succ_cons] at e0 e1 e2
 obtain ⟨n0, q0, _, w0⟩ := DataW.trod_int Try.underlying3 e0
 obtain ⟨n1, q1, _, w1⟩ := DataW.trod_int Try.underlying3 e1
 obtain rfl : v0 = .int .i64 n0 := by simpa [c3] using q0
 obtain rfl : v1 = .int .i64 n1 := by simpa [c3] using q1
 rcases DataW.trod_slice Try.underlying22 e2 with ⟨hv, _⟩ | ⟨a, len, cap, elems, rest, m, hm, hv, _, hb, hlc, hcap, hel2, hat, _, _⟩
 ·obtain rfl : v2 = .slice none 0 0 := by simpa [c22] using hv
  exact ⟨⟨n0, n1, []⟩, k24_mk W ⟨n0, n1, []⟩ (Nat.le_refl _) (Kd.C_nil _ _), WF.mk _ w0 w1 (Nat.zero_le _) (fun k hk => by cases hk)⟩
 ·obtain rfl : v2 = .slice (some a) len cap := by simpa [c22] using hv
  have each : ∀ i, i < len → ∃ e : S24, WF e ∧ ∃ c, W.cells? base (a.add (i * 3)) 3 = some c ∧ k24.K W e c := by
   intro i hi
   have h1 := hat i hi
   rw [c24, List.getElem?_eq_getElem (by omega)] at h1
   obtain ⟨c, hc, h2⟩ := Option.bind_eq_some_iff.mp h1
   obtain ⟨e, he, hw⟩ := ih m (by omega) c _ h2
   exact ⟨e, hw, c, hc, he⟩
  obtain ⟨l, hl, hp⟩ := choose_list each
  have hC : k24.C W (some a) l.length l := by
   refine ⟨rfl, by unfold maxLen at hcap; omega, fun _ => ⟨a, rfl, fun j p hj => ?_⟩⟩
   obtain ⟨_, c, hc, hk⟩ := hp j p hj
   obtain ⟨_, hcl, hcell⟩ := World.cells?_some hc
   refine ⟨c, hcl, hk, fun i u hu => ?_⟩
   have hi : i < 3 := by
    have := (List.getElem?_eq_some_iff.mp hu).1
    omega
   have := hcell i hi
   rw [hu, Addr.add_add] at this
   exact this
  refine ⟨⟨n0, n1, l⟩, ?_, WF.mk _ w0 w1 (by show l.length ≤ maxLen; omega) (fun k hk => ?_)⟩
  ·have := k24_mk W ⟨n0, n1, l⟩ (A2 := some a) (c2 := cap) (by show l.length ≤ cap; omega) hC
   simp only [hl] at this
   exact this
  ·obtain ⟨i, hi, rfl⟩ := List.getElem_of_mem hk
   exact (hp i _ (List.getElem?_eq_getElem hi)).1
end Go.Proofs.Ytjofkebiacaciaa.AllRead24
end
section
namespace Go.Proofs.Ytjofkebiacaciaa.T04
open Go Go.RowKit Go.Proofs.Ytjofkebiacaciaa.PAll Go.Proofs.YtjofkebiacaciaaW.PrintWords Go.Proofs.YtjofkebiacaciaaW.PrintLast Go.Proofs.YtjofkebiacaciaaW.PrintMore Go.Proofs.Ytjofkebiacaciaa.AllRead24
set_option linter.all false
theorem ind {P : S24 → Prop} (h : ∀ e, (∀ k, k ∈ e.f2 → P k) → P e) (e : S24) : P e := h e (fun k hk => ind h k)
termination_by SizeOf.sizeOf e
decreasing_by
 cases e with
 | mk a b l =>
  have := List.sizeOf_lt_of_mem hk
  simp at this ⊢
  omega
mutual
def size : S24 → Nat
 | ⟨_, _, l⟩ => 1 + sizes l
def sizes : List S24 → Nat
 | [] => 0
 | x :: r => size x + sizes r
end
mutual
def depth : S24 → Nat
 | ⟨_, _, l⟩ => 1 + depths l
def depths : List S24 → Nat
 | [] => 0
 | x :: r => max (depth x) (depths r)
end
theorem size_mk (e : S24) : size e = 1 + sizes e.f2 := by cases e; rw [size]
theorem depth_mk (e : S24) : depth e = 1 + depths e.f2 := by cases e; rw [depth]
theorem size_pos (e : S24) : 1 ≤ size e := by rw [size_mk]; omega
theorem depth_pos (e : S24) : 1 ≤ depth e := by rw [depth_mk]; omega
theorem length_le_sizes (l : List S24) : l.length ≤ sizes l := by
 induction l with
 | nil => simp [sizes]
 | cons x r ih => have := size_pos x; simp [sizes]; omega
theorem sizes_mem {l : List S24} {x : S24} (h : x ∈ l) : size x ≤ sizes l := by
 induction l with
 | nil => cases h
 | cons y r ih =>
  rcases List.mem_cons.mp h with rfl | h
  ·simp [sizes]
  ·have := ih h; simp [sizes]; omega
theorem depth_le_size (e : S24) : depth e ≤ size e := by
 induction e using ind with
 | h e ih =>
 have : ∀ l : List S24, (∀ k, k ∈ l → depth k ≤ size k) → depths l ≤ sizes l := by
  intro l
  induction l with
  | nil => intro _; simp [depths, sizes]
  | cons x r ihr =>
   intro h
   have h1 := h x (by simp)
   have h2 := ihr (fun k hk => h k (by simp [hk]))
   simp [depths, sizes]; omega
 have := this e.f2 ih
 rw [size_mk, depth_mk]; omega
theorem rd_mid (pre : List S24) (x : S24) (r : List S24) : rd_T24 (pre ++ x :: r) (pre.length : Int) = x := by
 simp [rd_T24, List.getD_eq_getElem?_getD]
theorem rd_head (x : S24) (r : List S24) : rd_T24 (x :: r) 0 = x := rfl
theorem next_mid {pre : List S24} {x : S24} {r : List S24} (h : (pre ++ x :: r).length ≤ maxLen) : wrap64 ((pre.length : Int) + 1) = ((pre ++ [x]).length : Int) := by
 unfold maxLen at h
 simp at h ⊢
 unfold wrap64
 omega
theorem lt_mid (pre : List S24) (x : S24) (r : List S24) : (pre.length : Int) < ((pre ++ x :: r).length : Int) := by simp; omega
theorem not_lt_end (pre : List S24) : ¬ (pre.length : Int) < ((pre ++ []).length : Int) := by simp
theorem ge0 (n : Nat) : 0 ≤ (n : Int) := by omega
theorem shift_mid (pre : List S24) (x : S24) (r : List S24) : pre ++ x :: r = (pre ++ [x]) ++ r := by simp
theorem w64 {i : Int} (h0 : -9223372036854775808 ≤ i) (h : i < 9223372036854775808) : wrap64 i = i := by
 unfold wrap64; omega
theorem within_ev (e : S24) : WF e → ∀ n d : Nat, n ≤ 400 → d ≤ 1000 → ∃ b m, Ev (fun k => within_walk.f k e.f2 d n) (b, m) ∧ (b = true ↔ n + size e ≤ 400 ∧ d + depth e ≤ 41) ∧ (b = true → m = ((n + size e : Nat) : Int)) := by
 induction e using ind with
 | h e ih =>
 intro hw n d hn hd
 have loop : ∀ (r pre : List S24), e.f2 = pre ++ r → ∀ m : Nat, m ≤ 400 → d ≤ 40 → ∃ b q, Ev (fun k => within_walk.l0 k e.f2 d m (pre.length : Int)) (b, q) ∧ (b = true ↔ m + sizes r ≤ 400 ∧ d + depths r ≤ 40) ∧ (b = true → q = ((m + sizes r : Nat) : Int)) := by
  intro r
  induction r with
  | nil =>
   intro pre hp m hm hd4
   refine ⟨true, m, Ev.step (fun k => by simp only [within_walk.l0]; rw [hp, if_neg (not_lt_end pre)]) (Ev.now _), by simp [sizes, depths]; omega, fun _ => by simp [sizes]⟩
  | cons x r ihr =>
   intro pre hp m hm hd4
   have hx : x ∈ e.f2 := by rw [hp]; simp
   have hl := hw.len
   obtain ⟨b, q, h1, h2, h3⟩ := ih x hx (hw.kid hx) m (d + 1) hm (by omega)
   have hs : ∀ k, within_walk.l0 (k + 1) e.f2 d m (pre.length : Int) = (within_walk.f k x.f2 ((d + 1 : Nat) : Int) m).bind fun t => (if t.1 = true then (within_walk.l0 k e.f2 d t.2 ((pre ++ [x]).length : Int)) else some (false, t.2)) := by
    intro k
    simp only [within_walk.l0]
    rw [← next_mid (r := r) (x := x) (by rw [← hp]; exact hl), hp, if_pos (lt_mid pre x r), if_pos (ge0 _), rd_mid, w64 (i := (d : Int) + 1) (by omega) (by omega)]
    rfl
   cases b with
   | false =>
    refine ⟨false, q, Ev.step hs (Ev.bind h1 (Ev.now _)), ?_, fun h => by cases h⟩
    have : ¬ (m + size x ≤ 400 ∧ d + 1 + depth x ≤ 41) := fun h => by have := h2.mpr h; cases this
    simp [sizes, depths]
    intro h
    have : ¬ d + 1 + depth x ≤ 41 := fun h' => this ⟨by omega, h'⟩
    omega
   | true =>
    have hq := h3 rfl
    have hb := h2.mp rfl
    obtain ⟨b', q', g1, g2, g3⟩ := ihr (pre ++ [x]) (by rw [hp]; exact shift_mid pre x r) (m + size x) hb.1 hd4
    refine ⟨b', q', Ev.step hs (Ev.bind h1 ?_), ?_, fun h => ?_⟩
    ·rw [hq]; exact g1
    ·rw [g2]; simp [sizes, depths]; omega
    ·rw [g3 h]; simp [sizes]; omega
 have hw1 : wrap64 ((n : Int) + 1) = ((n + 1 : Nat) : Int) := by rw [w64 (by omega) (by omega)]; rfl
 by_cases c1 : wrap64 ((n : Int) + 1) > 400
 ·refine ⟨false, _, Ev.step (f := fun _ => some (false, wrap64 ((n : Int) + 1))) (fun k => by simp only [within_walk.f]; rw [if_pos c1]) (Ev.now _), ?_, fun h => by cases h⟩
  rw [hw1] at c1
  have := size_pos e
  simp; omega
 ·by_cases c2 : (d : Int) > 40
  ·refine ⟨false, _, Ev.step (f := fun _ => some (false, wrap64 ((n : Int) + 1))) (fun k => by simp only [within_walk.f]; rw [if_neg c1, if_pos c2]) (Ev.now _), ?_, fun h => by cases h⟩
   have := depth_pos e
   simp; omega
  ·obtain ⟨b, q, h1, h2, h3⟩ := loop e.f2 [] rfl (n + 1) (by rw [hw1] at c1; omega) (by omega)
   refine ⟨b, q, Ev.step (f := fun k => within_walk.l0 k e.f2 d ((n + 1 : Nat) : Int) 0) (fun k => by simp only [within_walk.f]; rw [if_neg c1, if_neg c2, hw1]) h1, ?_, fun h => ?_⟩
   ·rw [h2, size_mk, depth_mk]; omega
   ·rw [h3 h, size_mk]; omega
def WithinP (e : S24) : Prop := size e ≤ 400 ∧ depth e ≤ 40
instance (e : S24) : Decidable (WithinP e) := by unfold WithinP; infer_instance
theorem within_prog (e : S24) (hw : WF e) : Ev (fun k => simplify_Within.f k e.f0 e.f1 e.f2) (decide (WithinP e)) := by
 obtain ⟨b, m, h1, h2, _⟩ := within_ev e hw 0 1 (by omega) (by omega)
 have hb : b = decide (WithinP e) := by
  rw [Bool.eq_iff_iff, h2, decide_eq_true_iff]; unfold WithinP; omega
 rw [← hb]
 exact Ev.bind (f := fun k t => some t.1) h1 (Ev.now _)
theorem measure_ev (e : S24) : WF e → ∃ (n : Nat) (d : Int), Ev (fun k => semigroupref04_measure.f k e.f0 e.f1 e.f2 400) ((n : Int), d) ∧ n = min (size e) 401 ∧ (size e ≤ 400 → d = depth e) := by
 induction e using ind with
 | h e ih =>
 intro hw
 have loop : ∀ (r pre : List S24), e.f2 = pre ++ r → ∀ (m : Nat) (q : Int), 1 ≤ m → m ≤ 401 → ∃ (n : Nat) (d : Int), Ev (fun k => semigroupref04_measure.l0 k 400 m q (pre.length : Int) e.f0 e.f1 e.f2) ((n : Int), d) ∧ n = min (m + sizes r) 401 ∧ (m + sizes r ≤ 400 → ∀ Q : Nat, q = Q → Q ≤ 1000 → d = ((max Q (depths r) + 1 : Nat) : Int)) := by
  intro r
  induction r with
  | nil =>
   intro pre hp m q h1 hm
   refine ⟨m, wrap64 (q + 1), Ev.step (f := fun _ => some ((m : Int), wrap64 (q + 1))) (fun k => by simp only [semigroupref04_measure.l0]; rw [hp, if_neg (not_lt_end pre)]) (Ev.now _), by simp [sizes]; omega, fun _ Q hQ hb => ?_⟩
   rw [hQ, w64 (by omega) (by omega)]; simp [depths]
  | cons x r ihr =>
   intro pre hp m q h1 hm
   have hx : x ∈ e.f2 := by rw [hp]; simp
   have px := size_pos x
   by_cases hc : (m : Int) ≤ 400
   ·obtain ⟨n1, d1, g1, g2, g4⟩ := ih x hx (hw.kid hx)
    obtain ⟨n2, d2, f1, f2, f4⟩ := ihr (pre ++ [x]) (by rw [hp]; exact shift_mid pre x r) (min (m + n1) 401) (mx q d1) (by omega) (by omega)
    refine ⟨n2, d2, Ev.step (f := fun k => (semigroupref04_measure.f k x.f0 x.f1 x.f2 400).bind fun bt => semigroupref04_measure.l0 k 400 (mn (wrap64 ((m : Int) + bt.1)) (wrap64 (400 + 1))) (mx q bt.2) ((pre ++ [x]).length : Int) e.f0 e.f1 e.f2) (fun k => ?_) (Ev.bind g1 ?_), ?_, ?_⟩
    ·simp only [semigroupref04_measure.l0]
     rw [← next_mid (r := r) (x := x) (by rw [← hp]; exact hw.len), hp, if_pos (lt_mid pre x r), if_pos hc, if_pos (ge0 _), rd_mid]
    ·have e1 : mn (wrap64 ((m : Int) + (n1 : Int))) (wrap64 (400 + 1)) = ((min (m + n1) 401 : Nat) : Int) := by
      rw [w64 (by omega) (by omega), w64 (by omega) (by omega)]; unfold mn; split <;> omega
     show Ev (fun k => semigroupref04_measure.l0 k 400 (mn (wrap64 ((m : Int) + (n1 : Int))) (wrap64 (400 + 1))) (mx q d1) ((pre ++ [x]).length : Int) e.f0 e.f1 e.f2) _
     rw [e1]; exact f1
    ·rw [f2]; simp [sizes]; omega
    ·intro hs Q hQ hb
     simp [sizes] at hs
     have hd := g4 (by omega)
     have dl := depth_le_size x
     rw [f4 (by omega) (max Q (depth x)) (by rw [hQ, hd]; unfold mx; split <;> omega) (by omega)]; simp [depths]; try omega
   ·refine ⟨m, wrap64 (q + 1), Ev.step (f := fun _ => some ((m : Int), wrap64 (q + 1))) (fun k => by simp only [semigroupref04_measure.l0]; rw [hp, if_pos (lt_mid pre x r), if_neg hc]) (Ev.now _), by omega, fun h => ?_⟩
    simp [sizes] at h
    omega
 obtain ⟨n, d, h1, h2, h4⟩ := loop e.f2 [] rfl 1 0 (by omega) (by omega)
 refine ⟨n, d, Ev.step (fun k => by simp only [semigroupref04_measure.f]; rfl) h1, by rw [h2, size_mk], fun h => ?_⟩
 rw [h4 (by rw [size_mk] at h; omega) 0 rfl (by omega), depth_mk]; omega
theorem within_ref (e : S24) (hw : WF e) : Ev (fun k => semigroupref04_Within.f k e.f0 e.f1 e.f2) (decide (WithinP e)) := by
 obtain ⟨n, d, h1, h2, h3⟩ := measure_ev e hw
 refine Ev.bind (f := fun k (bt : Int × Int) => if bt.1 ≤ 400 then (some (decide (bt.2 ≤ 40))) else (some false)) h1 ?_
 by_cases hc : size e ≤ 400
 ·have hn : (n : Int) ≤ 400 := by omega
  have hb : decide (d ≤ 40) = decide (WithinP e) := by
   rw [h3 hc, Bool.eq_iff_iff, decide_eq_true_iff, decide_eq_true_iff]; unfold WithinP; omega
  simp only [if_pos hn, hb]; exact Ev.now _
 ·have hn : ¬ (n : Int) ≤ 400 := by omega
  have hb : decide (WithinP e) = false := by rw [decide_eq_false_iff_not]; unfold WithinP; omega
  simp only [if_neg hn, hb]; exact Ev.now _
end Go.Proofs.Ytjofkebiacaciaa.T04
end
section
namespace Go.Proofs.Ytjofkebiacaciaa.T04
open Go Go.RowKit Go.Proofs.Ytjofkebiacaciaa.PAll Go.Proofs.YtjofkebiacaciaaW.PrintWords Go.Proofs.YtjofkebiacaciaaW.PrintLast Go.Proofs.YtjofkebiacaciaaW.PrintMore
set_option linter.all false
theorem awake_now : semigrouplaw04_awake.f 40 = some true := by decide +kernel
theorem awake_ev : Ev (fun k => semigrouplaw04_awake.f k) true := Ev.of semigrouplaw04_awake.mono awake_now
end Go.Proofs.Ytjofkebiacaciaa.T04
end
