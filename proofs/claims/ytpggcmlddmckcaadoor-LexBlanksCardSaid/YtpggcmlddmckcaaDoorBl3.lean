/-
  LexBlanks walked: it returns true. Written by an AI agent.
-/
import Derived.Test.YtpggcmlddmckcaaDoorBl2
namespace Go.Proofs.YtpggcmlddmckcaaDoor
open Go.RowKit Go.Sort
set_option maxRecDepth 100000

theorem ix_off {t e : TypeId} {sz g o0 n cap o : Nat} {x : Int} (k : Nat) (hx : x = k) (ht : Tryd.prog.underlying t = some (.slice e)) (hi : (Tryd.prog.info? e).map (·.size) = some sz) (hk : k < n) (ho : o = o0 + k * sz) (w : World) :
    (Instr.indexAt t (.slice (some ⟨g, o0, none⟩) n cap) (.int .i64 x)).run Tryd.prog w = .ok (.pointer (some ⟨g, o, none⟩)) w := by
  subst hx
  subst ho
  obtain ⟨i, hi1, hi2⟩ := Option.map_eq_some_iff.1 hi
  have ha : (⟨g, o0, none⟩ : Addr).add (k * sz) = ⟨g, o0 + k * sz, none⟩ := by
    unfold Addr.add
    split
    · rename_i h; rw [h]; rfl
    · rfl
  simp [Instr.indexAt, asIntOf, run_underlying ht, sizeOf, typeInfo, hi1, hi2, ha]
  omega
theorem slat_str' (x : Value) (a b c : Option Value) (w : World) : (Instr.sliceAt 9 x a b c).run Tryd.prog w = (Instr.slice 9 x a b c).run Tryd.prog w := by simp [Instr.sliceAt, run_underlying Tryd.underlying9]
theorem int_info : (Tryd.prog.info? 3).map (·.size) = some 1 := by kernel_rfl
/-- Numbers that an argument leads to. -/
structure RawI (w : World) (d : Option Addr) (rs : List Int) : Prop where
  at_ : rs ≠ [] → ∃ g o, d = some ⟨g, o, none⟩ ∧ g < w.heap.size ∧ ∀ j x, rs[j]? = some x → w.cell? ⟨g, o + j, none⟩ = some (.int .i64 x)
  range : ∀ x ∈ rs, -9223372036854775808 ≤ x ∧ x ≤ 9223372036854775807
theorem RawI.below {w w' : World} {B : Nat} {d : Option Addr} {rs : List Int} (h : RawI w d rs) (hb : Below B w w') (hB : w.heap.size ≤ B) : RawI w' d rs :=
  ⟨fun hn => by
    obtain ⟨g, o, e, hg, hc⟩ := h.at_ hn
    exact ⟨g, o, e, Nat.lt_of_lt_of_le hg hb.size, fun j x hx => (hb.cell (p := ⟨g, o + j, none⟩) (Nat.lt_of_lt_of_le hg hB)).trans (hc j x hx)⟩, h.range⟩
theorem TokRow.below' {w w' : World} {B : Nat} {d : Option Addr} {ts : List Tok} (h : TokRow w d ts) (hb : Below B w w') (hB : w.heap.size ≤ B) : TokRow w' d ts := fun hn => by
  obtain ⟨g, e, hg, hc⟩ := h hn
  have hk : ∀ o, w'.cell? ⟨g, o, none⟩ = w.cell? ⟨g, o, none⟩ := fun o => hb.cell (p := ⟨g, o, none⟩) (Nat.lt_of_lt_of_le hg hB)
  exact ⟨g, e, Nat.lt_of_lt_of_le hg hb.size, fun i t hi => by
    obtain ⟨c0, c1, c2⟩ := hc i t hi
    exact ⟨(hk _).trans c0, (hk _).trans c1, (hk _).trans c2⟩⟩
/-- A token's block, its loads. -/
def TokC (w : World) (g : Nat) (t : Tok) : Prop := Blk w g 48 #[.int .i64 (t.kind : Int), .string (bs t.text), .int .i64 (t.place : Int)]
theorem TokC.f0 {w : World} {g : Nat} {t : Tok} (h : TokC w g t) : Lds Tryd.prog 3 (.pointer (some ⟨g, 0, none⟩)) (.int .i64 (t.kind : Int)) w := lds1 Tryd.underlying3 rfl (h.cell 0)
theorem TokC.f2 {w : World} {g : Nat} {t : Tok} (h : TokC w g t) : Lds Tryd.prog 3 (.pointer (some ⟨g, 2, none⟩)) (.int .i64 (t.place : Int)) w := lds1 Tryd.underlying3 rfl (h.cell 2)
theorem TokC.all {w : World} {g : Nat} {t : Tok} (h : TokC w g t) : Lds Tryd.prog 48 (.pointer (some ⟨g, 0, none⟩)) (.agg #[.int .i64 (t.kind : Int), .string (bs t.text), .int .i64 (t.place : Int)]) w :=
  ldsA (cs := [.int .i64 (t.kind : Int), .string (bs t.text), .int .i64 (t.place : Int)]) Tryd.underlying48 rfl tok_info' (range_blk h fun j v hj => by rw [Nat.zero_add]; simpa using hj)

def chR (rs : List Int) (i : Nat) (line : Bool) : List UInt8 := chK (pkN (rs.getD (i % rs.length) 0)) line
/-- How far the mix has come. -/
def MixAt (s : List UInt8) (rs : List Int) (ts : List Tok) (i fr : Nat) (L : List UInt8) (W : List Tok) : Prop :=
  mixL s (chR rs) 0 0 0 ts = (L ++ (mixL s (chR rs) i fr L.length (ts.drop i)).1, W ++ (mixL s (chR rs) i fr L.length (ts.drop i)).2) ∧ W.length = i ∧ L.length ≤ fr + 6 * i ∧ fr ≤ s.length ∧ (∀ t ∈ ts.drop i, fr ≤ t.place)
theorem MixAt.step {s : List UInt8} {rs : List Int} {ts : List Tok} {i fr : Nat} {L : List UInt8} {W : List Tok} (h : MixAt s rs ts i fr L W) (hi : i < ts.length) (hp : ∀ t ∈ ts, t.place ≤ s.length) (hO : ts.Pairwise (fun a b => a.place < b.place)) :
    MixAt s rs ts (i + 1) ts[i].place (L ++ (s.drop fr).take (ts[i].place - fr) ++ chR rs i (lineB s ts[i]))
      (W ++ [⟨ts[i].kind, ts[i].text, (L ++ (s.drop fr).take (ts[i].place - fr) ++ chR rs i (lineB s ts[i])).length⟩]) := by
  obtain ⟨h1, h2, h3, h4, h5⟩ := h
  have hd := List.drop_eq_getElem_cons hi
  have hpl := hp ts[i] (List.getElem_mem _)
  have hfr := h5 ts[i] (by rw [hd]; exact List.mem_cons_self)
  refine ⟨?_, by simp [h2], ?_, hpl, fun t ht => ?_⟩
  · rw [h1, hd, mixL]
    simp only [List.length_append, List.append_assoc, List.singleton_append, Nat.add_assoc]
  · have := chK_len (pkN (rs.getD (i % rs.length) 0)) (lineB s ts[i])
    simp only [List.length_append, List.length_take, List.length_drop]
    unfold chR
    omega
  · have hsub : ts.drop i = ts[i] :: ts.drop (i + 1) := hd
    have hpw : (ts.drop i).Pairwise (fun a b => a.place < b.place) := hO.sublist (List.drop_sublist _ _)
    rw [hsub] at hpw
    exact Nat.le_of_lt ((List.pairwise_cons.1 hpw).1 t ht)

theorem grown_set (g : Nat) : ∀ (vs : List Value) (o : Nat) (w : World), w.grownBy (w.setCells g o vs) (some g)
  | [], _, w => grown_refl w _
  | v :: r, o, w => by
    have h0 := (Below.refl 0 w).setCell (p := ⟨g, o, none⟩) (Nat.zero_le _) v
    exact grown_trans ⟨h0.os, h0.tape, h0.output, h0.size, fun k _ hne => Below.heap_setCell w ⟨g, o, none⟩ v k (fun e => hne (by rw [e]))⟩ (grown_set g r (o + 1) _)
noncomputable def blTail : Code := .seq (.seq (r_bl 17) (.block 2 blArm)) (.seq (r_bl 28) (r_bl 29))
noncomputable def blTurn : Code := .seq (.block 1 (.seq (r_bl 11) (.seq (.seq (r_bl 12) (.cond (.tmp 60) (.seq (r_bl 13) .ret) .skip)) (.seq (r_bl 14) (.seq (r_bl 15) (.seq (r_bl 16) blTail)))))) (r_bl 10)
theorem bl_loop0 : blL0 = .seq (.seq (r_bl 9) (.cond (.tmp 43) .skip (.exit 0))) blTurn := rfl

/-- What stands while the law runs. -/
structure BlAt (w3 w : World) (d1 d6 : Option Addr) (rs : List Int) (ts : List Tok) : Prop where
  below : Below w3.heap.size w3 w
  raw : RawI w3 d1 rs
  row : TokRow w3 d6 ts

set_option maxHeartbeats 4000000 in
theorem bl_tail (s : ByteArray) (ts : List Tok) (rs : List Int) (hn : rs ≠ []) (i : Nat) (hi : i ≤ 100000) (line : Bool) (t : Tok) (L : List UInt8) (W : List Tok) (hL : L.length ≤ 900000) (hW : W.length ≤ 900000) (w3 w : World) (d1 d6 : Option Addr) (q1 q6 fr g : Nat) (vb vw : Value) (hA : BlAt w3 w d1 d6 rs ts)
    (hb : BRow w w3.heap.size vb L) (hw : Toks w w3.heap.size vw W) (hT : TokC w g t) (hg : w3.heap.size ≤ g) (hgb : vb.ownBlock ≠ some g) (hgw : vw.ownBlock ≠ some g) (a : Act)
    (h : Sl 144 a [(13, .bool line), (12, .pointer (some ⟨g, 0, none⟩)), (11, .int .i64 (i : Int)), (10, .int .i64 (fr : Int)), (9, vw), (8, vb), (6, .slice d6 ts.length q6), (1, .slice d1 rs.length q1), (0, .string s)]) (Q : Exit → Act → World → Prop)
    (hQ : ∀ a' w' vb' vw', Sl 144 a' [(11, .int .i64 (i : Int)), (10, .int .i64 (fr : Int)), (9, vw'), (8, vb'), (6, .slice d6 ts.length q6), (1, .slice d1 rs.length q1), (0, .string s)] → BlAt w3 w' d1 d6 rs ts → BRow w' w3.heap.size vb' (L ++ chR rs i line) →
      Toks w' w3.heap.size vw' (W ++ [⟨t.kind, t.text, (L ++ chR rs i line).length⟩]) → Q .normal a' w') : blTail.wp Tryd.prog Q a w := by
  have hlen : 0 < rs.length := List.length_pos_iff.2 hn
  have hj : i % rs.length < rs.length := Nat.mod_lt _ hlen
  obtain ⟨gr, o, rfl, hgr, hcr⟩ := (hA.raw.below hA.below (Nat.le_refl _)).at_ hn
  have hx : rs[i % rs.length]? = some (rs[i % rs.length]'hj) := List.getElem?_eq_getElem hj
  have hrg := hA.raw.range (rs[i % rs.length]'hj) (List.getElem_mem _)
  have hgd : rs.getD (i % rs.length) 0 = rs[i % rs.length]'hj := by simp [List.getD_eq_getElem?_getD, hx]
  have hll : Lds Tryd.prog 3 (.pointer (some ⟨gr, o + i % rs.length, none⟩)) (.int .i64 (rs[i % rs.length]'hj)) w := lds1 Tryd.underlying3 rfl (hcr _ _ hx)
  unfold blTail
  refine wp_seq (wp_seq (bl_r17 (j := i % rs.length) h rfl rfl (fun w => (rem_run (by omega) (by omega) w).trans (by simp)) (ix_off (i % rs.length) rfl Tryd.underlying51 int_info hj (by omega)) hll (pick_any _ hrg.1 hrg.2 w) fun a2 w2 hw2 h2 => ?_))
  subst hw2
  refine wp_block ?_
  refine bl_arm (pkN (rs[i % rs.length]'hj)) line L (by omega) _ vb w hb hA.below.size s _ d6 _ q1 _ q6 fr i g vw a2 (h2.to ⟨rfl, rfl, rfl, rfl, rfl, rfl, rfl, rfl, rfl, rfl, trivial⟩) _ fun a3 w4 vb' h3 hb4 hgr4 => ?_
  refine block_norm ?_
  have hch : chK (pkN (rs[i % rs.length]'hj)) line = chR rs i line := by rw [chR, hgd]
  rw [hch] at hb4
  have hlen4 : (L ++ chR rs i line).length ≤ 900006 := by
    have := chK_len (pkN (rs[i % rs.length]'hj)) line
    rw [hch] at this
    rw [List.length_append]
    omega
  have hbel4 := own_grew hb hA.below.size hgr4
  have hw4 : Toks w4 w3.heap.size vw W := own_keep hw hgr4 (own_ne hw hb (by decide))
  have hT4 : TokC w4 g t := Blk.grown hT hgr4 (Ne.symm hgb)
  obtain ⟨d8, q8, rfl⟩ := hb4.form
  show Code.wp _ (Code.seq (r_bl 28) (r_bl 29)) _ a3 w4
  refine wp_seq (bl_r28 h3 rfl rfl (sts1 (there_blk hT4 (by simp)) int_info rfl) fun a4 h4 => ?_)
  have hT5 : TokC (w4.setCells g 2 [.int .i64 ((L ++ chR rs i line).length : Int)]) g ⟨t.kind, t.text, (L ++ chR rs i line).length⟩ := hT4.set_ 2 _
  have hgb4 : (Value.slice d8 (L ++ chR rs i line).length q8).ownBlock ≠ some g := by
    rcases own_block hb4 with e | ⟨k, cur, e, _, _, e3⟩
    · rw [e]; simp
    · rw [e]
      intro e2
      injection e2 with e2
      subst e2
      have := e3.symm.trans hT4
      injection this with this
      injection this with _ this
      revert this
      decide
  have hb5 : BRow (w4.setCells g 2 [.int .i64 ((L ++ chR rs i line).length : Int)]) w3.heap.size (.slice d8 (L ++ chR rs i line).length q8) (L ++ chR rs i line) := by
    exact own_keep hb4 (grown_set g _ 2 w4) (.inr hgb4)
  have hw5 : Toks (w4.setCells g 2 [.int .i64 ((L ++ chR rs i line).length : Int)]) w3.heap.size vw W := own_keep hw4 (grown_set g _ 2 w4) (.inr hgw)
  have hA5 : Below w3.heap.size w3 (w4.setCells g 2 [.int .i64 ((L ++ chR rs i line).length : Int)]) := below_setCells _ _ _ (hA.below.trans hbel4) hg
  generalize w4.setCells g 2 [.int .i64 ((L ++ chR rs i line).length : Int)] = w5 at hT5 hb5 hw5 hA5 ⊢
  refine wpl (bl_r29 h4 rfl rfl hT5.all (fun ty => app_tok ⟨t.kind, t.text, (L ++ chR rs i line).length⟩ hw5 hA5.size (by omega) ty) fun a5 vw' w6 hx h5 => ?_)
  obtain ⟨hw6, hg6⟩ := hx
  exact hQ a5 w6 _ vw' (h5.to ⟨rfl, rfl, rfl, rfl, rfl, rfl, rfl, trivial⟩) ⟨hA5.trans (own_grew hw5 hA5.size hg6), hA.raw, hA.row⟩ (own_keep hb5 hg6 (own_ne hb5 hw5 (by decide))) hw6

set_option maxHeartbeats 4000000 in
theorem bl_turn (s : ByteArray) (hs : s.size ≤ 20000) (ts : List Tok) (hz : ts.length ≤ 20001) (hp : ∀ t ∈ ts, t.place ≤ s.data.toList.length) (hO : ts.Pairwise (fun a b => a.place < b.place)) (rs : List Int) (hn : rs ≠ []) (i : Nat) (hi : i < ts.length) (L : List UInt8) (W : List Tok) (w3 w : World) (d1 d6 : Option Addr) (q1 q6 fr : Nat)
    (vb vw : Value) (hA : BlAt w3 w d1 d6 rs ts) (hb : BRow w w3.heap.size vb L) (hw : Toks w w3.heap.size vw W) (hM : MixAt s.data.toList rs ts i fr L W) (a : Act)
    (h : Sl 144 a [(11, .int .i64 (i : Int)), (10, .int .i64 (fr : Int)), (9, vw), (8, vb), (6, .slice d6 ts.length q6), (1, .slice d1 rs.length q1), (0, .string s)]) (Q : Exit → Act → World → Prop)
    (hQ : ∀ a' w' vb' vw' (fr' : Nat) L' W', Sl 144 a' [(11, .int .i64 ((i + 1 : Nat) : Int)), (10, .int .i64 (fr' : Int)), (9, vw'), (8, vb'), (6, .slice d6 ts.length q6), (1, .slice d1 rs.length q1), (0, .string s)] → BlAt w3 w' d1 d6 rs ts → BRow w' w3.heap.size vb' L' →
      Toks w' w3.heap.size vw' W' → MixAt s.data.toList rs ts (i + 1) fr' L' W' → Q .normal a' w') : blTurn.wp Tryd.prog Q a w := by
  have hsl : s.data.toList.length = s.size := by simp
  have hM' := hM.step hi hp hO
  obtain ⟨_, m2, m3, m4, m5⟩ := hM
  have hpl := hp ts[i] (List.getElem_mem _)
  have hfr := m5 ts[i] (by rw [List.drop_eq_getElem_cons hi]; exact List.mem_cons_self)
  obtain ⟨gl, rfl, hgl, hc⟩ := (hA.row.below' hA.below (Nat.le_refl _)).at i hi
  have hi' := hi
  generalize ts[i] = t at hM' hpl hfr hc
  unfold blTurn
  refine wp_seq (wp_block ?_)
  have hN := Blk.new w 48 #[.int .i64 0, .string ⟨#[]⟩, .int .i64 0]
  refine wp_seq (bl_r11 h rfl rfl (ix_at (o := i * 3) i rfl Tryd.underlying23 tok_info' hi rfl) (TokCells.load' hc) (stsA (there_blk hN (by simp)) tok_info' (by simp [Value.oneCell'])) fun a2 h2 => ?_)
  have hT2 : TokC ((w.alloc (.cells #[.int .i64 0, .string ⟨#[]⟩, .int .i64 0] 48)).setCells w.heap.size 0 [.int .i64 (t.kind : Int), .string (bs t.text), .int .i64 (t.place : Int)]) w.heap.size t :=
    Blk.setL [.int .i64 (t.kind : Int), .string (bs t.text), .int .i64 (t.place : Int)] 0 _ _ hN
  have hb2 := below_setCells [.int .i64 (t.kind : Int), .string (bs t.text), .int .i64 (t.place : Int)] 0 _ (bl_alloc (Below.refl w.heap.size w) (.cells #[.int .i64 0, .string ⟨#[]⟩, .int .i64 0] 48)) (Nat.le_refl _)
  have hvb : vb.ownBlock ≠ some w.heap.size := by
    rcases own_block hb with e | ⟨k, _, e, _, e2, _⟩ <;> rw [e]
    · simp
    · intro e3; injection e3 with e3; omega
  have hvw : vw.ownBlock ≠ some w.heap.size := by
    rcases own_block hw with e | ⟨k, _, e, _, e2, _⟩ <;> rw [e]
    · simp
    · intro e3; injection e3 with e3; omega
  have hgz : w3.heap.size ≤ w.heap.size := hA.below.size
  have hBb : BRow _ w3.heap.size vb L := own_below' hb hb2
  have hBw : Toks _ w3.heap.size vw W := own_below' hw hb2
  have hA2 := hA.below.trans (hb2.mono hgz)
  generalize (w.alloc (.cells #[.int .i64 0, .string ⟨#[]⟩, .int .i64 0] 48)).setCells w.heap.size 0 [.int .i64 (t.kind : Int), .string (bs t.text), .int .i64 (t.place : Int)] = w2 at hT2 hb2 hBb hBw hA2 ⊢
  generalize w.heap.size = g at h2 hT2 hvb hvw hgz
  refine wp_seq (wp_seq (bl_r12_f h2 rfl rfl rfl hT2.f2 (decide_eq_false (by omega)) (decide_eq_false (by omega)) fun a3 h3 => wpo (h3.look 60 rfl) ?_))
  have hsub : ∀ w, (Instr.sliceAt 9 (.string s) (some (.int .i64 (fr : Int))) (some (.int .i64 (t.place : Int))) none).run Tryd.prog w = .ok (.string (bs ((s.data.toList.drop fr).take (t.place - fr)))) w := fun w => by
    rw [slat_str', sl_to (a := fr) (b := t.place) hfr (by omega) rfl rfl]
  have htl : ((s.data.toList.drop fr).take (t.place - fr)).length ≤ 20000 := by rw [List.length_take, List.length_drop]; omega
  refine wp_seq (bl_r14 h3 rfl rfl rfl rfl hT2.f2 hsub (fun ty => app_str _ hBb hA2.size (by omega) ty) fun a4 vb4 w4 hx h4 => ?_)
  obtain ⟨hb4, hg4⟩ := hx
  have hA4 := hA2.trans (own_grew hBb hA2.size hg4)
  have hw4 : Toks w4 w3.heap.size vw W := own_keep hBw hg4 (own_ne hBw hBb (by decide))
  have hT4 : TokC w4 g t := Blk.grown hT2 hg4 (Ne.symm hvb)
  have hvb4 : vb4.ownBlock ≠ some g := by
    rcases own_block hb4 with e | ⟨k, cur, e, _, _, e3⟩ <;> rw [e]
    · simp
    · intro e2
      injection e2 with e2
      subst e2
      have := e3.symm.trans hT4
      injection this with this
      injection this with _ this
      revert this
      decide
  refine wp_seq (bl_r15 h4 rfl hT4.f2 fun a5 h5 => ?_)
  have hline : ∀ (K : Act → World → Prop) (Q' : Exit → Act → World → Prop), (∀ a6 l6, Sl 144 a6 l6 → AllL l6 [(13, .bool (lineB s.data.toList t)), (12, .pointer (some ⟨g, 0, none⟩)), (11, .int .i64 (i : Int)), (10, .int .i64 (t.place : Int)), (9, vw), (8, vb4), (6, .slice (some ⟨gl, 0, none⟩) ts.length q6), (1, .slice d1 rs.length q1), (0, .string s)] → K a6 w4) → (r_bl 16).wp Tryd.prog (Exit.then K Q') a5 w4 := fun K Q' hK => by
    by_cases hk : t.kind = 1
    · by_cases he : t.place = s.size
      · refine bl_r16_tt h5 rfl rfl hT4.f0 (decide_eq_true (by omega)) hT4.f2 (decide_eq_true (by omega)) fun a6 h6 => ?_
        have hl : lineB s.data.toList t = true := by unfold lineB; simp [hk, hsl, he]
        exact hK a6 _ h6 ⟨by rw [hl]; rfl, rfl, rfl, rfl, rfl, rfl, rfl, rfl, rfl, trivial⟩
      · have hlt : t.place < s.size := by omega
        have hget : s.data.toList[t.place]? = some (s[t.place]'hlt) := by
          rw [List.getElem?_eq_getElem (by omega)]
          simp
          rfl
        have hix := fun w => idx_str hlt (x := (t.place : Int)) rfl w
        have hnot : decide (t.place = s.data.toList.length) = false := decide_eq_false (by omega)
        by_cases h10 : s[t.place]'hlt = 10
        · refine bl_r16_tf h5 rfl rfl hT4.f0 (decide_eq_true (by omega)) hT4.f2 (decide_eq_false (by omega)) hix (decide_eq_true (by rw [h10]; rfl)) fun a6 h6 => ?_
          have hl : lineB s.data.toList t = true := by unfold lineB; rw [hget, h10]; simp [hk]
          exact hK a6 _ h6 ⟨by rw [hl]; rfl, rfl, rfl, rfl, rfl, rfl, rfl, rfl, rfl, trivial⟩
        · refine bl_r16_tf h5 rfl rfl hT4.f0 (decide_eq_true (by omega)) hT4.f2 (decide_eq_false (by omega)) hix (decide_eq_false (fun e => h10 (UInt8.toNat_inj.1 (by show _ = (10 : UInt8).toNat; have : (10 : UInt8).toNat = 10 := rfl; omega)))) fun a6 h6 => ?_
          have hl : lineB s.data.toList t = false := by unfold lineB; rw [hget, hnot]; simp [h10]
          exact hK a6 _ h6 ⟨by rw [hl]; rfl, rfl, rfl, rfl, rfl, rfl, rfl, rfl, rfl, trivial⟩
    · refine bl_r16_f h5 rfl hT4.f0 (decide_eq_false (by omega)) fun a6 h6 => ?_
      have hl : lineB s.data.toList t = false := by unfold lineB; simp [hk]
      exact hK a6 _ h6 ⟨by rw [hl]; rfl, rfl, rfl, rfl, rfl, rfl, rfl, rfl, rfl, trivial⟩
  refine wp_seq (hline _ _ fun a6 l6 h6 hl6 => ?_)
  refine bl_tail s ts rs hn i (by omega) _ t _ W (by rw [List.length_append]; omega) (by omega) w3 w4 d1 _ q1 q6 t.place g vb4 vw ⟨hA4, hA.raw, hA.row⟩ hb4 hw4 hT4 hgz hvb4 hvw a6 (h6.to hl6) _ fun a7 w7 vb7 vw7 h7 hA7 hb7 hw7 => ?_
  refine block_norm ?_
  refine wpl (bl_r10 h7 rfl (by omega) fun a8 h8 => ?_)
  exact hQ a8 w7 vb7 vw7 _ _ _ (h8.to ⟨rfl, rfl, rfl, rfl, rfl, rfl, rfl, trivial⟩) hA7 hb7 hw7 hM'

set_option maxHeartbeats 4000000 in
theorem lexBlanks_any (s : ByteArray) (hs : s.size ≤ 140737488351232) (rs : List Int) (hr : rs.length ≤ 140737488351232) (d1 : Option Addr) (q1 : Nat) (w : World) (hL : LexAt w) (hR : RawI w d1 rs) :
    Calls Tryd.prog 9 #[.string s, .slice d1 rs.length q1] w fun e w' => e = .returned (.bool true) ∧ Below w.heap.size w w' := by
  have hsl : s.data.toList.length = s.size := by simp
  refine calls_ev (vs := [.string s, .slice d1 rs.length q1]) 144 Tryd.func9 bl_body (by kernel_rfl) (by simp) fun a0 h0 => ?_
  unfold blBody
  refine wp_seq (bl_r0 h0 fun a1 h1 => ?_)
  refine wp_seq (bl_r1 h1 (known_any w hL) fun a2 w2 hb2 h2 => ?_)
  have hL2 := hL.below hb2 (Nat.le_refl _)
  refine wp_seq (bl_r2 h2 rfl ((scan_p s w2 hL2).mono fun e w' ⟨x, ev, he, hp, hb⟩ => ⟨x, ev, he, show ScanP _ w2 w' x ev ∧ Below w2.heap.size w2 w' from ⟨hp, hb⟩⟩) fun a3 x ev w3 hx h3 => ?_)
  obtain ⟨hp, hb3⟩ := hx
  have hbw3 := bl_trans hb2 hb3
  have out : ∀ a4 l4, Sl 144 a4 l4 → l4.lookup 5 = some (.bool true) → (Code.seq (r_bl 4) .ret).wp Tryd.prog (bodyPost Tryd.prog Tryd.f9 (fun e w' => e = .returned (.bool true) ∧ Below w.heap.size w w')) a4 w3 := fun a4 l4 h4 e5 =>
    wp_seq (bl_r4 h4 e5 fun a5 h5 => wp_ret (ret1 rfl h5 rfl ⟨rfl, hbw3⟩))
  have outK : ∀ (K : Act → World → Prop) a4 l4, Sl 144 a4 l4 → l4.lookup 5 = some (.bool true) → l4.lookup 38 = some (.bool true) → (Code.cond (.tmp 38) (.seq (r_bl 4) .ret) .skip).wp Tryd.prog (Exit.then K (bodyPost Tryd.prog Tryd.f9 (fun e w' => e = .returned (.bool true) ∧ Below w.heap.size w w'))) a4 w3 := fun K a4 l4 h4 e5 e38 =>
    wp_cond_true (h4.look 38 e38) (wp_seq (bl_r4 h4 e5 fun a5 h5 => wp_ret (then_ret (ret1 rfl h5 rfl ⟨rfl, hbw3⟩))))
  cases hS : scan s.data.toList with
  | bad b =>
    rw [hS] at hp
    obtain ⟨rfl, g, rfl, _⟩ := hp
    exact wp_seq (wp_seq (bl_r3e h3 rfl rfl fun a4 h4 => outK _ a4 _ h4 rfl rfl))
  | ok ts =>
    rw [hS] at hp
    obtain ⟨rfl, ht⟩ := hp
    obtain ⟨d6, q6, rfl, hT⟩ := ht.form
    by_cases hbig : 20000 < s.size
    · exact wp_seq (wp_seq (bl_r3n_t h3 rfl rfl rfl (decide_eq_true (by omega)) fun a4 h4 => outK _ a4 _ h4 rfl rfl))
    by_cases hn : rs = []
    · subst hn
      exact wp_seq (wp_seq (bl_r3n_f h3 rfl rfl rfl rfl (decide_eq_false (by omega)) (decide_eq_true rfl) fun a4 h4 => outK _ a4 _ h4 rfl rfl))
    have hlen : 0 < rs.length := List.length_pos_iff.2 hn
    have hscan : scanL 0 false s.data.toList = .ok ts := by
      unfold scan at hS
      rwa [if_neg (by omega)] at hS
    have hplace : PlaceP 0 s.data.toList (.ok ts) := by rw [← hscan]; exact scan_places _ _ _ _ (Nat.le_refl _)
    have hord : OrdA 0 (.ok ts) := by rw [← hscan]; exact scan_ord _ _ _ _ (Nat.le_refl _)
    have hz : ts.length ≤ 20001 := by have := hplace.1; omega
    have hpl : ∀ t ∈ ts, t.place ≤ s.data.toList.length := fun t h => by have := hplace.2 t h; omega
    refine wp_seq (wp_seq (bl_r3n_f h3 rfl rfl rfl rfl (decide_eq_false (by omega)) (decide_eq_false (by omega)) fun a4 h4 => wpo (h4.look 38 rfl) ?_))
    refine wp_seq (bl_r5 h4 fun a5 h5 => ?_)
    refine wp_seq (bl_r6 h5 fun a6 h6 => ?_)
    refine wp_seq (bl_r7 h6 fun a7 h7 => ?_)
    refine wp_seq (wp_seq (bl_r8 h7 fun a8 h8 => ?_))
    refine wp_block ?_
    refine wp_loop (fun a' wr => ∃ (i fr : Nat) (vb vw : Value) (L : List UInt8) (W : List Tok), i ≤ ts.length ∧ Sl 144 a' [(11, .int .i64 (i : Int)), (10, .int .i64 (fr : Int)), (9, vw), (8, vb), (6, .slice d6 ts.length q6), (1, .slice d1 rs.length q1), (0, .string s)] ∧
        BlAt w3 wr d1 d6 rs ts ∧ BRow wr w3.heap.size vb L ∧ Toks wr w3.heap.size vw W ∧ MixAt s.data.toList rs ts i fr L W) (fun a' _ => muTo ts.length (slot a' 11))
      ⟨0, 0, _, _, [], [], by omega, h8.to ⟨rfl, rfl, rfl, rfl, rfl, rfl, rfl, trivial⟩, ⟨Below.refl _ _, hR.below hbw3 (Nat.le_refl _), hT⟩, BRow.nil _ _, World.ownsRow_nil _ _ _ _, rfl, rfl, by simp, Nat.zero_le _, fun t _ => Nat.zero_le _⟩ ?_
    rintro a9 w9 ⟨i, fr, vb, vw, L, W, hi, h9, hA9, hb9, hw9, hM⟩
    rw [h9.look 11 rfl, muTo_int, bl_loop0]
    refine wp_seq (wp_seq ?_)
    by_cases hlt : i < ts.length
    · refine bl_r9 h9 rfl rfl (decide_eq_true (by omega)) fun a10 h10 => wpn (h10.look 43 rfl) ?_
      refine bl_turn s (by omega) ts hz hpl hord.2 rs hn i hlt L W w3 w9 d1 d6 q1 q6 fr vb vw hA9 hb9 hw9 hM a10 (h10.to ⟨rfl, rfl, rfl, rfl, rfl, rfl, rfl, trivial⟩) _ fun a11 w11 vb' vw' fr' L' W' h11 hA11 hb11 hw11 hM11 => ?_
      refine ⟨⟨i + 1, fr', vb', vw', L', W', by omega, h11, hA11, hb11, hw11, hM11⟩, ?_⟩
      rw [h11.look 11 rfl, muTo_int]
      omega
    · refine bl_r9 h9 rfl rfl (decide_eq_false (by omega)) fun a10 h10 => wpx (h10.look 43 rfl) ?_
      refine then_exit (in_block' ?_)
      obtain ⟨m1, m2, m3, m4, _⟩ := hM
      rw [List.drop_of_length_le (by omega), mixL, List.append_nil] at m1
      show Code.wp _ (Code.seq (r_bl 30) _) _ a10 w9
      have hdl : (s.data.toList.drop fr).length ≤ 20000 := by rw [List.length_drop]; omega
      have hall : (L ++ s.data.toList.drop fr).length ≤ 200000 := by rw [List.length_append]; omega
      refine wp_seq (bl_r30 h10 rfl rfl rfl (fun w => (slat_str' _ _ _ _ w).trans (sl_from (k := fr) (by omega) rfl w)) (fun ty => app_str _ hb9 hA9.below.size (by rw [List.length_append] at hall; omega) ty) fun a11 vb' w11 hx h11 => ?_)
      obtain ⟨hb11, hg11⟩ := hx
      have hbel : Below w3.heap.size w3 w11 := hA9.below.trans (own_grew hb9 hA9.below.size hg11)
      have hw11 : Toks w11 w3.heap.size vw W := own_keep hw9 hg11 (own_ne hw9 hb9 (by decide))
      have hbw11 : Below w.heap.size w w11 := bl_trans hbw3 hbel
      obtain ⟨d8, q8, rfl⟩ := hb11.form
      by_cases h6 : 60000 < (L ++ s.data.toList.drop fr).length
      · refine wp_seq (wp_seq (bl_r31 h11 rfl (decide_eq_true (by omega)) fun a12 h12 => wp_cond_true (h12.look 129 rfl) ?_))
        exact wp_seq (bl_r32 h12 fun a13 h13 => wp_ret (then_ret (ret1 rfl h13 rfl ⟨rfl, hbw11⟩)))
      refine wp_seq (wp_seq (bl_r31 h11 rfl (decide_eq_false (by omega)) fun a12 h12 => wpo (h12.look 129 rfl) ?_))
      have hms := mix_scan (s := s.data.toList) (ch := chR rs) (fun i b => chK_ins _ b) hS (by rw [m1]; show (L ++ s.data.toList.drop fr).length ≤ 60000; omega)
      rw [m1] at hms
      have hL11 := hL.below hbw11 (Nat.le_refl _)
      refine wp_seq (bl_r33 h12 rfl (own_string hb11) ((scan_p (bs (L ++ s.data.toList.drop fr)) w11 hL11).mono fun e w' ⟨x, ev, he, hp, hb⟩ => ⟨x, ev, he, show ScanP _ w11 w' x ev ∧ Below w11.heap.size w11 w' from ⟨hp, hb⟩⟩) fun a13 x2 ev2 w13 hx h13 => ?_)
      obtain ⟨hp13, hb13⟩ := hx
      rw [bs_list, hms] at hp13
      obtain ⟨rfl, ht13⟩ := hp13
      obtain ⟨d14, q14, rfl, hT14⟩ := ht13.form
      have hw13 : Toks w13 w3.heap.size vw W := own_below' hw11 hb13
      obtain ⟨d9, q9, rfl, hT9⟩ := hw13.form
      refine wp_seq (bl_r34 h13 rfl rfl (same_eq W (by omega) d14 d9 q14 q9 w13 hT14 hT9) fun a14 w14 hb14 h14 => ?_)
      refine wp_seq (bl_r35 h14 rfl rfl fun a15 h15 => wp_ret ?_)
      exact ret1 rfl h15 rfl ⟨rfl, bl_trans (bl_trans hbw11 hb13) hb14⟩
end Go.Proofs.YtpggcmlddmckcaaDoor
