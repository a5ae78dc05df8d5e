/-
  The law ValueAlike walked: of three made data, equal goes both ways and on; each is equal to itself, or held; equal ones have one number. It returns true. Written by an AI agent.
-/
import Derived.Test.YthdmmhiifkebeaaDoorAlr2
namespace Go.Proofs.YthdmmhiifkebeaaDoor
open Go.RowKit Go.Sort
set_option maxRecDepth 100000

noncomputable def tBody : Code := .seq (.seq (rAl 28) (.cond (.tmp 209) .skip (.exit 4))) (.seq (.block 5 (.seq (rAl 30) (.seq (rAl 31) (.seq (rAl 32) (.cond (.tmp 243) (.seq (rAl 33) .ret) .skip))))) (rAl 29))
noncomputable def jBody : Code := .seq (.seq (rAl 16) (.cond (.tmp 117) .skip (.exit 2))) (.seq (.block 3 (.seq (rAl 18) (.seq (rAl 19) (.seq (rAl 20) (.seq (rAl 21) (.seq (rAl 22)
  (.seq (.seq (rAl 23) (.cond (.tmp 194) (.seq (rAl 24) .ret) .skip)) (.seq (.seq (rAl 25) (.cond (.tmp 207) (.seq (rAl 26) .ret) .skip)) (.seq (rAl 27) (.block 4 (.loop tBody))))))))))) (rAl 17))
noncomputable def iBody : Code := .seq (.seq (rAl 7) (.cond (.tmp 51) .skip (.exit 0))) (.seq (.block 1 (.seq (rAl 9) (.seq (rAl 10) (.seq (rAl 11) (.seq (rAl 12)
  (.seq (.seq (rAl 13) (.cond (.tmp 115) (.seq (rAl 14) .ret) .skip)) (.seq (rAl 15) (.block 2 (.loop jBody))))))))) (rAl 8))
noncomputable def alBody : Code := .seq (rAl 0) (.seq (rAl 1) (.seq (rAl 2) (.seq (rAl 3) (.seq (rAl 4) (.seq (rAl 5) (.seq (.seq (rAl 6) (.block 0 (.loop iBody))) (.seq (rAl 34) .ret)))))))
theorem in_block {id : Nat} {Q : Exit → Act → World → Prop} {a : Act} {w : World} (h : Q .normal a w) : Exit.inBlock id Q (.exit id) a w := by simpa [Exit.inBlock] using h
theorem al_body : Tryd.f8.body = some alBody := by kernel_rfl

/-- What holds from the making of the row on. -/
structure AlEnv (w5 : World) (g : Nat) (xs : Nat → Md) : Prop where
  good : ∀ i, i < 3 → (xs i).Good
  row : RowM w5 g xs
  own : ∀ W, Below w5.heap.size w5 W → OwnAt W
section
variable {w5 : World} {g : Nat} {xs : Nat → Md} (env : AlEnv w5 g xs)
include env
theorem AlEnv.cells {W : World} (hW : Below w5.heap.size w5 W) {i : Nat} (hi : i < 3) : CellsAt W g (i * 11) (xs i).cells := (env.row.below hW i hi).1
theorem AlEnv.eq {W : World} (hW : Below w5.heap.size w5 W) {i j : Nat} (hi : i < 3) (hj : j < 3) : ∀ V, Below W.heap.size W V → Calls Tryd.prog 21 #[.agg (xs i).cells, .agg (xs j).cells] V fun x w' =>
    ∃ v, x = .returned (.tuple #[.bool (eqAns (xs i).h (xs i).k (xs j).h (xs j).k), v]) ∧ ErrAt V w' v (eqEr (xs i).h (xs i).k (xs j).h (xs j).k) ∧ Below V.heap.size V w' := fun V hV =>
  equalA_any (env.good i hi) (env.good j hj) V (env.own V (bl_trans hW hV)) (env.row.below (bl_trans hW hV) i hi).2 (env.row.below (bl_trans hW hV) j hj).2
theorem AlEnv.same {W : World} (hW : Below w5.heap.size w5 W) {i j : Nat} (hi : i < 3) (hj : j < 3) : ∀ V, Below W.heap.size W V → Calls Tryd.prog 30 #[.agg (xs i).cells, .agg (xs j).cells] V fun x w' =>
    x = .returned (.bool (sameD (xs i).h (xs i).k (xs j).h (xs j).k)) ∧ Below V.heap.size V w' := fun V hV =>
  sameA_any (env.good i hi) (env.good j hj) V (env.row.below (bl_trans hW hV) i hi).2 (env.row.below (bl_trans hW hV) j hj).2
end

theorem al_tloop {w5 : World} {g : Nat} {xs : Nat → Md} (env : AlEnv w5 g xs) (i j : Nat) (hi : i < 3) (hj : j < 3) (e : Value) (bad : Bool) (fr : Act) (w : World) (Q : Exit → Act → World → Prop)
    (hs : Sl 244 fr [(28, .int .i64 ((0 : Nat) : Int)), (19, .bool (eqAns (xs i).h (xs i).k (xs j).h (xs j).k)), (18, .int .i64 (j : Nat)), (16, e), (14, .bool bad), (12, .int .i64 (i : Nat)), (11, .slice (some ⟨g, 0, none⟩) 3 3), (7, .bool true)])
    (hb : Below w5.heap.size w5 w)
    (hQ : ∀ a' w', Sl 244 a' [(18, .int .i64 (j : Nat)), (16, e), (14, .bool bad), (12, .int .i64 (i : Nat)), (11, .slice (some ⟨g, 0, none⟩) 3 3), (7, .bool true)] → Below w5.heap.size w5 w' → Q (.exit 4) a' w') :
    (Code.loop tBody).wp Tryd.prog Q fr w := by
  refine wp_loop (fun a' w' => ∃ t : Nat, t ≤ 3 ∧ Sl 244 a' [(28, .int .i64 (t : Nat)), (19, .bool (eqAns (xs i).h (xs i).k (xs j).h (xs j).k)), (18, .int .i64 (j : Nat)), (16, e), (14, .bool bad), (12, .int .i64 (i : Nat)), (11, .slice (some ⟨g, 0, none⟩) 3 3), (7, .bool true)] ∧ Below w5.heap.size w5 w')
    (fun a' _ => muTo 3 (slot a' 28)) ⟨0, by omega, hs, hb⟩ ?_
  rintro a1 w1 ⟨t, ht, h1, hb1⟩
  rw [h1.look 28 rfl, muTo_int]
  unfold tBody
  refine wp_seq (wp_seq ?_)
  by_cases h3 : t < 3
  · refine al_r28T a1 w1 _ _ _ h1 rfl t h3 rfl fun a2 h2 => ?_
    refine wpc_on (h2.look 209 rfl) ?_
    refine wp_seq (wp_block (wp_seq ?_))
    refine al_r30 a2 w1 _ _ _ h2.tl rfl g j t hj h3 (xs j) (xs t) (env.cells hb1 hj) (env.cells hb1 h3) (env.eq hb1 hj h3) rfl rfl rfl fun a3 w3 v3 hs3 _ hb3 => ?_
    have hb13 := bl_trans hb1 hb3
    refine wp_seq ?_
    refine al_r31 a3 w3 _ _ _ hs3.tl rfl g i t hi h3 (xs i) (xs t) (env.cells hb13 hi) (env.cells hb13 h3) (env.eq hb13 hi h3) rfl rfl rfl fun a4 w4 v4 hs4 _ hb4 => ?_
    have hb14 := bl_trans hb13 hb4
    have hs4 := hs4.tl
    refine wp_seq ?_
    have hfin : ∀ a5, Sl 244 a5 [(28, .int .i64 (t : Nat)), (19, .bool (eqAns (xs i).h (xs i).k (xs j).h (xs j).k)), (18, .int .i64 (j : Nat)), (16, e), (14, .bool bad), (12, .int .i64 (i : Nat)), (11, .slice (some ⟨g, 0, none⟩) 3 3), (7, .bool true)] →
        (rAl 29).wp Tryd.prog (Exit.then (fun a' w' => (∃ t : Nat, t ≤ 3 ∧ Sl 244 a' [(28, .int .i64 (t : Nat)), (19, .bool (eqAns (xs i).h (xs i).k (xs j).h (xs j).k)), (18, .int .i64 (j : Nat)), (16, e), (14, .bool bad), (12, .int .i64 (i : Nat)), (11, .slice (some ⟨g, 0, none⟩) 3 3), (7, .bool true)] ∧ Below w5.heap.size w5 w') ∧ muTo 3 (slot a' 28) < 3 - t) Q) a5 w4 := fun a5 h5 => by
      refine al_r29 a5 w4 _ _ _ h5.tl rfl t h3 (h5.look 28 rfl) fun a6 h6 => ⟨⟨t + 1, by omega, h6, hb14⟩, ?_⟩
      rw [h6.look 28 rfl, muTo_int]
      omega
    have hlaw : eqAns (xs i).h (xs i).k (xs j).h (xs j).k = true → eqAns (xs j).h (xs j).k (xs t).h (xs t).k = true → eqAns (xs i).h (xs i).k (xs t).h (xs t).k = true := fun x y =>
      alike_three (env.good i hi).right (env.good t h3).right x y
    generalize eqAns (xs i).h (xs i).k (xs j).h (xs j).k = a at hs4 hfin hlaw ⊢
    generalize eqAns (xs j).h (xs j).k (xs t).h (xs t).k = c at hs4 hlaw
    generalize eqAns (xs i).h (xs i).k (xs t).h (xs t).k = d at hs4 hlaw
    have hend : ∀ Q2 : Exit → Act → World → Prop, (∀ a5, Sl 244 a5 [(28, .int .i64 (t : Nat)), (19, .bool a), (18, .int .i64 (j : Nat)), (16, e), (14, .bool bad), (12, .int .i64 (i : Nat)), (11, .slice (some ⟨g, 0, none⟩) 3 3), (7, .bool true)] → Q2 .normal a5 w4) → ∀ a5, Sl 244 a5 ((243, .bool false) :: (31, .bool d) :: (29, .bool c) :: [(28, .int .i64 (t : Nat)), (19, .bool a), (18, .int .i64 (j : Nat)), (16, e), (14, .bool bad), (12, .int .i64 (i : Nat)), (11, .slice (some ⟨g, 0, none⟩) 3 3), (7, .bool true)]) →
        (Code.cond (.tmp 243) (.seq (rAl 33) .ret) .skip).wp Tryd.prog Q2 a5 w4 := fun Q2 hQ2 a5 h5 => wpc_off (h5.look 243 rfl) (hQ2 a5 h5.tl.tl.tl)
    cases a
    · exact al_r32A a4 w4 _ _ _ hs4 rfl rfl (hend _ hfin)
    · cases c
      · exact al_r32B a4 w4 _ _ _ hs4 rfl rfl rfl (hend _ hfin)
      · obtain rfl : d = true := hlaw rfl rfl
        exact al_r32C a4 w4 _ _ _ hs4 rfl rfl rfl rfl (hend _ hfin)
  · have htz : t = 3 := by omega
    subst htz
    refine al_r28F a1 w1 _ _ _ h1 rfl rfl fun a2 h2 => ?_
    exact wpc_exit (h2.look 209 rfl) (hQ a2 w1 h2.tl.tl.tl hb1)
theorem al_jloop {w5 : World} {g : Nat} {xs : Nat → Md} (env : AlEnv w5 g xs) (i : Nat) (hi : i < 3) (e : Value) (bad : Bool) (he : ErrV e (eqEr (xs i).h (xs i).k (xs i).h (xs i).k)) (hbad : brD (xs i).h (xs i).k = bad) (fr : Act) (w : World) (Q : Exit → Act → World → Prop)
    (hs : Sl 244 fr [(18, .int .i64 ((0 : Nat) : Int)), (16, e), (14, .bool bad), (12, .int .i64 (i : Nat)), (11, .slice (some ⟨g, 0, none⟩) 3 3), (7, .bool true)]) (hb : Below w5.heap.size w5 w)
    (hQ : ∀ a' w', Sl 244 a' [(12, .int .i64 (i : Nat)), (11, .slice (some ⟨g, 0, none⟩) 3 3), (7, .bool true)] → Below w5.heap.size w5 w' → Q (.exit 2) a' w') :
    (Code.loop jBody).wp Tryd.prog Q fr w := by
  refine wp_loop (fun a' w' => ∃ j : Nat, j ≤ 3 ∧ Sl 244 a' [(18, .int .i64 (j : Nat)), (16, e), (14, .bool bad), (12, .int .i64 (i : Nat)), (11, .slice (some ⟨g, 0, none⟩) 3 3), (7, .bool true)] ∧ Below w5.heap.size w5 w') (fun a' _ => muTo 3 (slot a' 18)) ⟨0, by omega, hs, hb⟩ ?_
  rintro a1 w1 ⟨j, hj, h1, hb1⟩
  rw [h1.look 18 rfl, muTo_int]
  unfold jBody
  refine wp_seq (wp_seq ?_)
  by_cases h3 : j < 3
  · refine al_r16T a1 w1 _ _ _ h1 rfl j h3 rfl fun a2 h2 => ?_
    refine wpc_on (h2.look 117 rfl) ?_
    refine wp_seq (wp_block (wp_seq ?_))
    refine al_r18 a2 w1 _ _ _ h2.tl rfl g i j hi h3 (xs i) (xs j) (env.cells hb1 hi) (env.cells hb1 h3) (env.eq hb1 hi h3) rfl rfl rfl fun a3 w3 vf hs3 hf b3 => ?_
    have hb3 := bl_trans hb1 b3
    refine wp_seq ?_
    refine al_r19 a3 w3 _ _ _ hs3 rfl g j i h3 hi (xs j) (xs i) (env.cells hb3 h3) (env.cells hb3 hi) (env.eq hb3 h3 hi) rfl rfl rfl fun a4 w4 vg hs4 hg b4 => ?_
    have hb4 := bl_trans hb3 b4
    refine wp_seq ?_
    refine al_r20 a4 w4 _ _ _ hs4 rfl g i hi (xs i) (env.cells hb4 hi) (hashA_any (env.good i hi) w4 (env.own w4 hb4) (env.row.below hb4 i hi).2) rfl rfl fun a5 w6 vh hs5 hh b5 => ?_
    have hb5 := bl_trans hb4 b5
    refine wp_seq ?_
    refine al_r21 a5 w6 _ _ _ hs5 rfl g j h3 (xs j) (env.cells hb5 h3) (hashA_any (env.good j h3) w6 (env.own w6 hb5) (env.row.below hb5 j h3).2) rfl rfl fun a6 w7 vo hs6 ho b6 => ?_
    have hb6 := bl_trans hb5 b6
    refine wp_seq ?_
    refine al_r22 a6 w7 _ _ _ hs6 rfl g i j hi h3 (xs i) (xs j) _ (env.cells hb6 hi) (env.cells hb6 h3) (env.same hb6 hi h3) rfl rfl rfl fun a7 w8 hs7 b7 => ?_
    have hb7 := bl_trans hb6 b7
    obtain ⟨r1, r2, r3, r4⟩ := alike_two (env.good i hi).ho (env.good j h3).ho (env.good i hi).ko (env.good j h3).ko (env.good i hi).right (env.good j h3).right
    have ht : ∀ (e : Value) (bad : Bool) (fr : Act) (w : World) (Q : Exit → Act → World → Prop), Sl 244 fr [(28, .int .i64 ((0 : Nat) : Int)), (19, .bool (eqAns (xs i).h (xs i).k (xs j).h (xs j).k)), (18, .int .i64 (j : Nat)), (16, e), (14, .bool bad), (12, .int .i64 (i : Nat)), (11, .slice (some ⟨g, 0, none⟩) 3 3), (7, .bool true)] → Below w5.heap.size w5 w →
        (∀ a' w', Sl 244 a' [(18, .int .i64 (j : Nat)), (16, e), (14, .bool bad), (12, .int .i64 (i : Nat)), (11, .slice (some ⟨g, 0, none⟩) 3 3), (7, .bool true)] → Below w5.heap.size w5 w' → Q (.exit 4) a' w') → (Code.loop tBody).wp Tryd.prog Q fr w := fun e bad fr w Q => al_tloop env i j hi h3 e bad fr w Q
    rw [hbad] at r4
    generalize eqAns (xs i).h (xs i).k (xs j).h (xs j).k = a at hs7 r1 r3 r4 ht
    generalize eqAns (xs j).h (xs j).k (xs i).h (xs i).k = b at hs7 r1
    generalize keyN (xs i).h (xs i).k = n at hs7 r3
    generalize keyN (xs j).h (xs j).k = m at hs7 r3
    generalize sameD (xs i).h (xs i).k (xs j).h (xs j).k = sm at hs7 r4
    subst r1
    refine wp_seq (wp_seq ?_)
    -- the first guard
    have hend1 : ∀ (Q2 : Exit → Act → World → Prop), (∀ a' w', Sl 244 a' [(27, .bool sm), (19, .bool a), (18, .int .i64 (j : Nat)), (16, e), (14, .bool bad), (12, .int .i64 (i : Nat)), (11, .slice (some ⟨g, 0, none⟩) 3 3), (7, .bool true)] → Below w5.heap.size w5 w' → Q2 .normal a' w') →
        ∀ a' w', Sl 244 a' ((194, .bool false) :: [(27, .bool sm), (26, vo), (25, .int .u64 m), (24, vh), (23, .int .u64 n), (22, vg), (21, .bool a), (20, vf), (19, .bool a), (18, .int .i64 (j : Nat)), (16, e), (14, .bool bad), (12, .int .i64 (i : Nat)), (11, .slice (some ⟨g, 0, none⟩) 3 3), (7, .bool true)]) → Below w8.heap.size w8 w' →
        (Code.cond (.tmp 194) (.seq (rAl 24) .ret) .skip).wp Tryd.prog Q2 a' w' := fun Q2 hQ2 a' w' hx hbx => wpc_off (hx.look 194 rfl) (hQ2 a' w' ((((((((hx.none.add (hx.look 7 rfl)).add (hx.look 11 rfl)).add (hx.look 12 rfl)).add (hx.look 14 rfl)).add (hx.look 16 rfl)).add (hx.look 18 rfl)).add (hx.look 19 rfl)).add (hx.look 27 rfl)) (bl_trans hb7 hbx))
    -- what comes behind it
    suffices hrest : ∀ (Q1 : Exit → Act → World → Prop), (∀ a' w', Sl 244 a' [(18, .int .i64 (j : Nat)), (16, e), (14, .bool bad), (12, .int .i64 (i : Nat)), (11, .slice (some ⟨g, 0, none⟩) 3 3), (7, .bool true)] → Below w5.heap.size w5 w' → Q1 .normal a' w') → ∀ a' w', Sl 244 a' [(27, .bool sm), (19, .bool a), (18, .int .i64 (j : Nat)), (16, e), (14, .bool bad), (12, .int .i64 (i : Nat)), (11, .slice (some ⟨g, 0, none⟩) 3 3), (7, .bool true)] → Below w5.heap.size w5 w' →
        (Code.seq (.seq (rAl 25) (.cond (.tmp 207) (.seq (rAl 26) .ret) .skip)) (.seq (rAl 27) (.block 4 (.loop tBody)))).wp Tryd.prog Q1 a' w' by
      have hend := hend1 (Exit.then ((Code.seq (.seq (rAl 25) (.cond (.tmp 207) (.seq (rAl 26) .ret) .skip)) (.seq (rAl 27) (.block 4 (.loop tBody)))).wp Tryd.prog (Exit.inBlock 3 (Exit.then ((rAl 17).wp Tryd.prog (Exit.then (fun a' w' => (∃ j : Nat, j ≤ 3 ∧ Sl 244 a' [(18, .int .i64 (j : Nat)), (16, e), (14, .bool bad), (12, .int .i64 (i : Nat)), (11, .slice (some ⟨g, 0, none⟩) 3 3), (7, .bool true)] ∧ Below w5.heap.size w5 w') ∧ muTo 3 (slot a' 18) < 3 - j) Q)) (Exit.then (fun a' w' => (∃ j : Nat, j ≤ 3 ∧ Sl 244 a' [(18, .int .i64 (j : Nat)), (16, e), (14, .bool bad), (12, .int .i64 (i : Nat)), (11, .slice (some ⟨g, 0, none⟩) 3 3), (7, .bool true)] ∧ Below w5.heap.size w5 w') ∧ muTo 3 (slot a' 18) < 3 - j) Q)))) (Exit.inBlock 3 (Exit.then ((rAl 17).wp Tryd.prog (Exit.then (fun a' w' => (∃ j : Nat, j ≤ 3 ∧ Sl 244 a' [(18, .int .i64 (j : Nat)), (16, e), (14, .bool bad), (12, .int .i64 (i : Nat)), (11, .slice (some ⟨g, 0, none⟩) 3 3), (7, .bool true)] ∧ Below w5.heap.size w5 w') ∧ muTo 3 (slot a' 18) < 3 - j) Q)) (Exit.then (fun a' w' => (∃ j : Nat, j ≤ 3 ∧ Sl 244 a' [(18, .int .i64 (j : Nat)), (16, e), (14, .bool bad), (12, .int .i64 (i : Nat)), (11, .slice (some ⟨g, 0, none⟩) 3 3), (7, .bool true)] ∧ Below w5.heap.size w5 w') ∧ muTo 3 (slot a' 18) < 3 - j) Q)))) (hrest (Exit.inBlock 3 (Exit.then ((rAl 17).wp Tryd.prog (Exit.then (fun a' w' => (∃ j : Nat, j ≤ 3 ∧ Sl 244 a' [(18, .int .i64 (j : Nat)), (16, e), (14, .bool bad), (12, .int .i64 (i : Nat)), (11, .slice (some ⟨g, 0, none⟩) 3 3), (7, .bool true)] ∧ Below w5.heap.size w5 w') ∧ muTo 3 (slot a' 18) < 3 - j) Q)) (Exit.then (fun a' w' => (∃ j : Nat, j ≤ 3 ∧ Sl 244 a' [(18, .int .i64 (j : Nat)), (16, e), (14, .bool bad), (12, .int .i64 (i : Nat)), (11, .slice (some ⟨g, 0, none⟩) 3 3), (7, .bool true)] ∧ Below w5.heap.size w5 w') ∧ muTo 3 (slot a' 18) < 3 - j) Q))) fun a' w' hx hbx => by
        show (rAl 17).wp Tryd.prog (Exit.then (fun a' w' => (∃ j : Nat, j ≤ 3 ∧ Sl 244 a' [(18, .int .i64 (j : Nat)), (16, e), (14, .bool bad), (12, .int .i64 (i : Nat)), (11, .slice (some ⟨g, 0, none⟩) 3 3), (7, .bool true)] ∧ Below w5.heap.size w5 w') ∧ muTo 3 (slot a' 18) < 3 - j) Q) a' w'
        refine al_r17 a' w' _ _ _ hx.tl rfl j h3 (hx.look 18 rfl) fun a9 h9 => ⟨⟨j + 1, by omega, h9, hbx⟩, ?_⟩
        rw [h9.look 18 rfl, muTo_int]
        omega)
      rcases hf with ⟨f1, rfl⟩ | ⟨f1, tf, gf, rfl⟩
      · rcases hg with ⟨g1, rfl⟩ | ⟨g1, _⟩
        · cases a
          · exact al_r23A a7 w8 _ _ _ hs7 rfl rfl rfl rfl rfl hend
          · obtain ⟨q1, q2, q3⟩ := r3 rfl
            rcases hh with ⟨_, rfl⟩ | ⟨h, _⟩
            · rcases ho with ⟨_, rfl⟩ | ⟨h, _⟩
              · subst q3
                exact al_r23B a7 w8 _ _ _ hs7 rfl n rfl rfl rfl rfl rfl rfl rfl rfl hend
              · exact absurd q2 h
            · exact absurd q1 h
        · exact absurd (r2 ▸ f1) g1
      · rcases hg with ⟨g1, _⟩ | ⟨g1, tg, gg, rfl⟩
        · exact absurd (r2.trans g1) f1
        · cases a
          · exact al_r23C a7 w8 _ _ _ hs7 rfl tf tg gf gg rfl rfl rfl rfl hend
          · obtain ⟨q1, q2, q3⟩ := r3 rfl
            rcases hh with ⟨_, rfl⟩ | ⟨h, _⟩
            · rcases ho with ⟨_, rfl⟩ | ⟨h, _⟩
              · subst q3
                exact al_r23D a7 w8 _ _ _ hs7 rfl tf tg gf gg n rfl rfl rfl rfl rfl rfl rfl rfl hend
              · exact absurd q2 h
            · exact absurd q1 h
    clear hend1 hs7 hf hg hh ho hs3 hs4 hs5 hs6
    intro Q1 hQ1 a8 w9 h8 hb8
    refine wp_seq (wp_seq ?_)
    have hend2 : ∀ (Q2 : Exit → Act → World → Prop), (∀ a', Sl 244 a' [(19, .bool a), (18, .int .i64 (j : Nat)), (16, e), (14, .bool bad), (12, .int .i64 (i : Nat)), (11, .slice (some ⟨g, 0, none⟩) 3 3), (7, .bool true)] → Q2 .normal a' w9) →
        ∀ a', Sl 244 a' ((207, .bool false) :: [(27, .bool sm), (19, .bool a), (18, .int .i64 (j : Nat)), (16, e), (14, .bool bad), (12, .int .i64 (i : Nat)), (11, .slice (some ⟨g, 0, none⟩) 3 3), (7, .bool true)]) → (Code.cond (.tmp 207) (.seq (rAl 26) .ret) .skip).wp Tryd.prog Q2 a' w9 := fun Q2 hQ2 a' hx => wpc_off (hx.look 207 rfl) (hQ2 a' hx.tl.tl)
    have hend := hend2 (Exit.then ((Code.seq (rAl 27) (.block 4 (.loop tBody))).wp Tryd.prog Q1) Q1) fun a' hx => by
      show (Code.seq (rAl 27) (.block 4 (.loop tBody))).wp Tryd.prog Q1 a' w9
      refine wp_seq ?_
      refine al_r27 a' w9 _ _ _ hx rfl fun a9 h9 => ?_
      refine wp_block (ht e bad a9 w9 _ h9 hb8 fun a10 w10 h10 hb10 => ?_)
      show (if 4 = 4 then Q1 .normal a10 w10 else Q1 (.exit 4) a10 w10)
      rw [if_pos rfl]
      exact hQ1 a10 w10 h10 hb10
    rcases he with ⟨e1, rfl⟩ | ⟨e1, te, ge, rfl⟩
    · cases sm
      · exact al_r25A a8 w9 _ _ _ h8 rfl rfl hend
      · cases bad
        · obtain rfl : a = true := r4 rfl rfl e1
          exact al_r25D a8 w9 _ _ _ h8 rfl rfl rfl rfl rfl hend
        · exact al_r25B a8 w9 _ _ _ h8 rfl rfl rfl hend
    · cases sm
      · exact al_r25A a8 w9 _ _ _ h8 rfl rfl hend
      · cases bad
        · exact al_r25C a8 w9 _ _ _ h8 rfl te ge rfl rfl rfl hend
        · exact al_r25B a8 w9 _ _ _ h8 rfl rfl rfl hend
  · have hjz : j = 3 := by omega
    subst hjz
    refine al_r16F a1 w1 _ _ _ h1 rfl rfl fun a2 h2 => ?_
    exact wpc_exit (h2.look 117 rfl) (hQ a2 w1 ((h2.none.add (h2.look 7 rfl)).add (h2.look 11 rfl) |>.add (h2.look 12 rfl)) hb1)

theorem al_iloop {w5 : World} {g : Nat} {xs : Nat → Md} (env : AlEnv w5 g xs) (fr : Act) (w : World) (Q : Exit → Act → World → Prop)
    (hs : Sl 244 fr [(12, .int .i64 ((0 : Nat) : Int)), (11, .slice (some ⟨g, 0, none⟩) 3 3), (7, .bool true)]) (hb : Below w5.heap.size w5 w)
    (hQ : ∀ a' w', Sl 244 a' [] → Below w5.heap.size w5 w' → Q (.exit 0) a' w') :
    (Code.loop iBody).wp Tryd.prog Q fr w := by
  refine wp_loop (fun a' w' => ∃ i : Nat, i ≤ 3 ∧ Sl 244 a' [(12, .int .i64 (i : Nat)), (11, .slice (some ⟨g, 0, none⟩) 3 3), (7, .bool true)] ∧ Below w5.heap.size w5 w') (fun a' _ => muTo 3 (slot a' 12)) ⟨0, by omega, hs, hb⟩ ?_
  rintro a1 w1 ⟨i, hi, h1, hb1⟩
  rw [h1.look 12 rfl, muTo_int]
  unfold iBody
  refine wp_seq (wp_seq ?_)
  by_cases h3 : i < 3
  · refine al_r7T a1 w1 _ _ _ h1 rfl i h3 rfl fun a2 h2 => ?_
    refine wpc_on (h2.look 51 rfl) ?_
    refine wp_seq (wp_block (wp_seq ?_))
    refine al_r9 a2 w1 _ _ _ h2.tl rfl g i h3 (xs i) (env.cells hb1 h3) (rightA_any (env.good i h3) w1 (env.own w1 hb1) (env.row.below hb1 i h3).2) rfl rfl fun a3 w3 hs3 b3 => ?_
    have hb3 := bl_trans hb1 b3
    refine wp_seq ?_
    refine al_r10 a3 w3 _ _ _ hs3 rfl g i h3 (xs i) (env.cells hb3 h3) (brokenA_any (env.good i h3) w3 (env.row.below hb3 i h3).2) rfl rfl fun a4 w4 hs4 b4 => ?_
    have hb4 := bl_trans hb3 b4
    refine wp_seq ?_
    refine al_r11 a4 w4 _ _ _ hs4 rfl g i h3 (xs i) (env.cells hb4 h3) (env.eq hb4 h3 h3) rfl rfl fun a5 w6 ve hs5 he b5 => ?_
    have hb5 := bl_trans hb4 b5
    refine wp_seq ?_
    refine al_r12 a5 w6 _ _ _ hs5 rfl g i h3 (xs i) (env.cells hb5 h3) (keyA_any (env.good i h3) w6 (env.own w6 hb5) (env.row.below hb5 i h3).2) rfl rfl fun a6 w7 vk hs6 hk b6 => ?_
    have hb6 := bl_trans hb5 b6
    obtain ⟨r1, r2⟩ := alike_one (env.good i h3).right
    have hsame := env.same hb6 h3 h3
    rw [sameD_refl] at hsame
    obtain ⟨bad, hbad⟩ : ∃ x, brD (xs i).h (xs i).k = x := ⟨_, rfl⟩
    rw [hbad] at hs6 r2
    generalize eqAns (xs i).h (xs i).k (xs i).h (xs i).k = own at hs6 r2
    refine wp_seq (wp_seq ?_)
    have hend1 : ∀ (Q2 : Exit → Act → World → Prop), (∀ a' w', Sl 244 a' [(16, ve), (14, .bool bad), (12, .int .i64 (i : Nat)), (11, .slice (some ⟨g, 0, none⟩) 3 3), (7, .bool true)] → Below w5.heap.size w5 w' → Q2 .normal a' w') →
        ∀ a' w', Sl 244 a' ((115, .bool false) :: [(17, vk), (16, ve), (15, .bool own), (14, .bool bad), (13, .bool true), (12, .int .i64 (i : Nat)), (11, .slice (some ⟨g, 0, none⟩) 3 3), (7, .bool true)]) → Below w7.heap.size w7 w' →
        (Code.cond (.tmp 115) (.seq (rAl 14) .ret) .skip).wp Tryd.prog Q2 a' w' := fun Q2 hQ2 a' w' hx hbx => wpc_off (hx.look 115 rfl) (hQ2 a' w' (((((hx.none.add (hx.look 7 rfl)).add (hx.look 11 rfl)).add (hx.look 12 rfl)).add (hx.look 14 rfl)).add (hx.look 16 rfl)) (bl_trans hb6 hbx))
    have hend := hend1 (Exit.then ((Code.seq (rAl 15) (.block 2 (.loop jBody))).wp Tryd.prog (Exit.inBlock 1 (Exit.then ((rAl 8).wp Tryd.prog (Exit.then (fun a' w' => (∃ i : Nat, i ≤ 3 ∧ Sl 244 a' [(12, .int .i64 (i : Nat)), (11, .slice (some ⟨g, 0, none⟩) 3 3), (7, .bool true)] ∧ Below w5.heap.size w5 w') ∧ muTo 3 (slot a' 12) < 3 - i) Q)) (Exit.then (fun a' w' => (∃ i : Nat, i ≤ 3 ∧ Sl 244 a' [(12, .int .i64 (i : Nat)), (11, .slice (some ⟨g, 0, none⟩) 3 3), (7, .bool true)] ∧ Below w5.heap.size w5 w') ∧ muTo 3 (slot a' 12) < 3 - i) Q)))) (Exit.inBlock 1 (Exit.then ((rAl 8).wp Tryd.prog (Exit.then (fun a' w' => (∃ i : Nat, i ≤ 3 ∧ Sl 244 a' [(12, .int .i64 (i : Nat)), (11, .slice (some ⟨g, 0, none⟩) 3 3), (7, .bool true)] ∧ Below w5.heap.size w5 w') ∧ muTo 3 (slot a' 12) < 3 - i) Q)) (Exit.then (fun a' w' => (∃ i : Nat, i ≤ 3 ∧ Sl 244 a' [(12, .int .i64 (i : Nat)), (11, .slice (some ⟨g, 0, none⟩) 3 3), (7, .bool true)] ∧ Below w5.heap.size w5 w') ∧ muTo 3 (slot a' 12) < 3 - i) Q)))) fun a' w' hx hbx => by
      show (Code.seq (rAl 15) (.block 2 (.loop jBody))).wp Tryd.prog (Exit.inBlock 1 (Exit.then ((rAl 8).wp Tryd.prog (Exit.then (fun a' w' => (∃ i : Nat, i ≤ 3 ∧ Sl 244 a' [(12, .int .i64 (i : Nat)), (11, .slice (some ⟨g, 0, none⟩) 3 3), (7, .bool true)] ∧ Below w5.heap.size w5 w') ∧ muTo 3 (slot a' 12) < 3 - i) Q)) (Exit.then (fun a' w' => (∃ i : Nat, i ≤ 3 ∧ Sl 244 a' [(12, .int .i64 (i : Nat)), (11, .slice (some ⟨g, 0, none⟩) 3 3), (7, .bool true)] ∧ Below w5.heap.size w5 w') ∧ muTo 3 (slot a' 12) < 3 - i) Q))) a' w'
      refine wp_seq ?_
      refine al_r15 a' w' _ _ _ hx rfl fun a9 h9 => ?_
      refine wp_block (al_jloop env i h3 ve bad he hbad a9 w' _ h9 hbx fun a10 w10 h10 hb10 => ?_)
      show (if 2 = 2 then (rAl 8).wp Tryd.prog (Exit.then (fun a' w' => (∃ i : Nat, i ≤ 3 ∧ Sl 244 a' [(12, .int .i64 (i : Nat)), (11, .slice (some ⟨g, 0, none⟩) 3 3), (7, .bool true)] ∧ Below w5.heap.size w5 w') ∧ muTo 3 (slot a' 12) < 3 - i) Q) a10 w10 else (Exit.then (fun a' w' => (∃ i : Nat, i ≤ 3 ∧ Sl 244 a' [(12, .int .i64 (i : Nat)), (11, .slice (some ⟨g, 0, none⟩) 3 3), (7, .bool true)] ∧ Below w5.heap.size w5 w') ∧ muTo 3 (slot a' 12) < 3 - i) Q) (.exit 2) a10 w10)
      rw [if_pos rfl]
      refine al_r8 a10 w10 _ _ _ h10.tl rfl i h3 (h10.look 12 rfl) fun a11 h11 => ⟨⟨i + 1, by omega, h11, hb10⟩, ?_⟩
      rw [h11.look 12 rfl, muTo_int]
      omega
    rcases he with ⟨e1, rfl⟩ | ⟨e1, te, ge, rfl⟩
    · rcases hk with ⟨k1, rfl⟩ | ⟨k1, _⟩
      · cases bad
        · obtain rfl : own = true := (r2 rfl).2 e1
          exact al_r13A a6 w7 _ _ _ hs6 rfl g i h3 (xs i) (env.cells hb6 h3) hsame rfl rfl rfl rfl rfl rfl rfl rfl hend
        · exact al_r13B a6 w7 _ _ _ hs6 rfl g i h3 (xs i) (env.cells hb6 h3) hsame own rfl rfl rfl rfl rfl rfl rfl rfl hend
      · exact absurd (r1.1 e1) k1
    · rcases hk with ⟨k1, _⟩ | ⟨k1, tk, gk, rfl⟩
      · exact absurd (r1.2 k1) e1
      · cases bad
        · obtain rfl : own = false := by
            cases own
            · rfl
            · exact absurd ((r2 rfl).1 rfl) e1
          exact al_r13C a6 w7 _ _ _ hs6 rfl g i h3 (xs i) (env.cells hb6 h3) hsame te tk ge gk rfl rfl rfl rfl rfl rfl rfl rfl hend
        · exact al_r13D a6 w7 _ _ _ hs6 rfl g i h3 (xs i) (env.cells hb6 h3) hsame own te tk ge gk rfl rfl rfl rfl rfl rfl rfl rfl hend
  · have hiz : i = 3 := by omega
    subst hiz
    refine al_r7F a1 w1 _ _ _ h1 rfl rfl fun a2 h2 => ?_
    exact wpc_exit (h2.look 51 rfl) (hQ a2 w1 h2.none hb1)

theorem valueAlike_any (ra : Option Addr) (la : List Int) (ca : Nat) (rb : Option Addr) (lb : List Int) (cb : Nat) (rc : Option Addr) (lc : List Int) (cc : Nat) (w : World) (hra : RawAt w ra la) (hrb : RawAt w rb lb) (hrc : RawAt w rc lc) (hown : OwnAt w) :
    Calls Tryd.prog 8 #[.slice ra la.length ca, .slice rb lb.length cb, .slice rc lc.length cc] w fun e w' => e = .returned (.bool true) ∧ Below w.heap.size w w' := by
  refine calls_of_wp Tryd.func8 al_body ?_
  have h0 : Sl 244 { tmps := #[Value.slice ra la.length ca, .slice rb lb.length cb, .slice rc lc.length cc] ++ Array.replicate (Tryd.f8.ntmps - #[Value.slice ra la.length ca, .slice rb lb.length cb, .slice rc lc.length cc].size) undef, defers := [] } [(0, .slice ra la.length ca), (1, .slice rb lb.length cb), (2, .slice rc lc.length cc)] :=
    ⟨by simp [Tryd.ntmps8], rfl, fun p hp => by
      simp only [List.mem_cons, List.not_mem_nil, or_false] at hp
      rcases hp with rfl | rfl | rfl <;> simp [slot]⟩
  generalize { tmps := #[Value.slice ra la.length ca, .slice rb lb.length cb, .slice rc lc.length cc] ++ Array.replicate (Tryd.f8.ntmps - #[Value.slice ra la.length ca, .slice rb lb.length cb, .slice rc lc.length cc].size) undef, defers := [] : Act } = a0 at h0 ⊢
  unfold alBody
  refine wp_seq (al_r0 a0 w _ _ _ h0 rfl fun a1 h1 => ?_)
  refine wp_seq (al_r1 a1 w _ _ _ h1 rfl (known_any w hown) fun a2 w1 h2 hb1 => ?_)
  refine wp_seq (al_r2 a2 w1 _ _ _ (((h2.none.add (h2.look 7 rfl)).add (h2.look 2 rfl)).add (h2.look 1 rfl)) rfl ra la.length ca (h2.look 0 rfl) fun a3 h3 => ?_)
  have hm1 := hra.mk_new (c := ca) hb1
  have hb2 : Below w.heap.size w (w1.alloc (.cells #[.slice ra la.length ca, .int .i64 0] 60)) := bl_alloc hb1 _
  generalize hw2 : w1.alloc (.cells #[.slice ra la.length ca, .int .i64 0] 60) = w2 at hm1 hb2 ⊢
  have z2 : w2.heap.size = w1.heap.size + 1 := by rw [← hw2]; simp
  refine wp_seq (al_r3 a3 w2 _ _ _ (((h3.none.add (h3.look 8 rfl)).add (h3.look 7 rfl)).add (h3.look 2 rfl)) rfl rb lb.length cb (h3.look 1 rfl) fun a4 h4 => ?_)
  have hm2 := hrb.mk_new (c := cb) hb2
  have hg3 : Below w2.heap.size w2 (w2.alloc (.cells #[.slice rb lb.length cb, .int .i64 0] 60)) := (Below.refl _ _).alloc (Nat.le_refl _) _
  have hb3 := bl_trans hb2 hg3
  have hm1 := hm1.below hg3
  generalize hw3 : w2.alloc (.cells #[.slice rb lb.length cb, .int .i64 0] 60) = w3 at hm1 hm2 hb3 ⊢
  have z3 : w3.heap.size = w2.heap.size + 1 := by rw [← hw3]; simp
  clear hg3
  refine wp_seq (al_r4 a4 w3 _ _ _ (((h4.none.add (h4.look 9 rfl)).add (h4.look 8 rfl)).add (h4.look 7 rfl)) rfl rc lc.length cc (h4.look 2 rfl) fun a5 h5 => ?_)
  have hm3 := hrc.mk_new (c := cc) hb3
  have hg4 : Below w3.heap.size w3 (w3.alloc (.cells #[.slice rc lc.length cc, .int .i64 0] 60)) := (Below.refl _ _).alloc (Nat.le_refl _) _
  have hb4 := bl_trans hb3 hg4
  have hm1 := hm1.below hg4
  have hm2 := hm2.below hg4
  generalize hw4 : w3.alloc (.cells #[.slice rc lc.length cc, .int .i64 0] 60) = w4 at hm1 hm2 hm3 hb4 ⊢
  clear hg4
  have s1 := hb1.size
  refine wp_seq (al_r5 a5 w4 _ _ _ (h5.none.add (h5.look 7 rfl)) rfl w1.heap.size w2.heap.size w3.heap.size w.heap.size (by omega) (by omega) (by omega) (by omega) (by omega) hm1 hm2 hm3 (h5.look 8 rfl) (h5.look 9 rfl) (h5.look 10 rfl) fun a6 w5 v h6 hrow b5 => ?_)
  obtain ⟨g, xs, rfl, hgood, hr⟩ := hrow
  have hb5 : Below w.heap.size w w5 := hb4.trans b5
  have env : AlEnv w5 g xs := ⟨hgood, hr, fun W hW => hown.below (bl_trans hb5 hW) (Nat.le_refl _)⟩
  refine wp_seq (wp_seq (al_r6 a6 w5 _ _ _ h6 rfl fun a7 h7 => ?_))
  refine wp_block (al_iloop env a7 w5 _ h7 (Below.refl _ _) fun a8 w8 h8 hb8 => ?_)
  refine in_block ?_
  show Code.wp _ (Code.seq (rAl 34) .ret) _ a8 w8
  refine wp_seq (al_r34 a8 w8 _ _ _ h8 rfl fun a9 h9 => ?_)
  refine wp_ret (bodyPost_ret (results_tmp rfl _ _ _) h9.defers ⟨?_, bl_trans hb5 hb8⟩)
  exact congrArg Ending.returned (h9.look 6 rfl)
end Go.Proofs.YthdmmhiifkebeaaDoor
