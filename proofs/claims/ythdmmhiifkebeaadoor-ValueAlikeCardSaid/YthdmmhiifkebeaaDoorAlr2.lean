/-
  The law ValueAlike's regions, one by one: those that ask value.Equal. Written by an AI agent.
-/
import Derived.Test.YthdmmhiifkebeaaDoorAlr1
namespace Go.Proofs.YthdmmhiifkebeaaDoor
open Go.RowKit Go.Sort
set_option maxRecDepth 100000
set_option maxHeartbeats 4000000 in
theorem al_r11 (a : Act) (w : World) (N : Act → World → Prop) (Q : Exit → Act → World → Prop) (l : List (Nat × Value)) (hs : Sl 244 a l) (hl : (l.map Prod.fst).all (fun k => [7, 11, 12, 13, 14].contains k) = true)
    (g i : Nat) (hi : i < 3) (x : Md) (hc : CellsAt w g (i * 11) x.cells) (HC : ∀ W, Below w.heap.size w W → Calls Tryd.prog 21 #[.agg x.cells, .agg x.cells] W fun e w' => ∃ v, e = .returned (.tuple #[.bool (eqAns x.h x.k x.h x.k), v]) ∧ ErrAt W w' v (eqEr x.h x.k x.h x.k) ∧ Below W.heap.size W w') (h11 : l.lookup 11 = some (.slice (some ⟨g, 0, none⟩) 3 3)) (h12 : l.lookup 12 = some (.int .i64 (i : Nat)))
    (hN : ∀ a' w' v, Sl 244 a' ((16, v) :: ((15, .bool (eqAns x.h x.k x.h x.k)) :: l)) → ErrV v (eqEr x.h x.k x.h x.k) → Below w.heap.size w w' → N a' w') : (rAl 11).wp Tryd.prog (Exit.then N Q) a w := by
  have HN := Lib.hid hN
  have HL := Lib.hid hl
  have e11 := hs.look 11 h11
  have e12 := hs.look 12 h12
  obtain ⟨f, ea, hf⟩ : ∃ f : Nat → Value, a = ⟨(List.toArray (f 0 :: f 1 :: f 2 :: f 3 :: f 4 :: f 5 :: f 6 :: f 7 :: f 8 :: f 9 :: f 10 :: f 11 :: f 12 :: f 13 :: f 14 :: f 15 :: f 16 :: f 17 :: f 18 :: f 19 :: f 20 :: f 21 :: f 22 :: f 23 :: f 24 :: f 25 :: f 26 :: f 27 :: f 28 :: f 29 :: f 30 :: f 31 :: f 32 :: f 33 :: f 34 :: f 35 :: f 36 :: f 37 :: f 38 :: f 39 :: f 40 :: f 41 :: f 42 :: f 43 :: f 44 :: f 45 :: f 46 :: f 47 :: f 48 :: f 49 :: f 50 :: f 51 :: f 52 :: f 53 :: f 54 :: f 55 :: f 56 :: f 57 :: f 58 :: f 59 :: f 60 :: f 61 :: f 62 :: f 63 :: f 64 :: f 65 :: f 66 :: f 67 :: f 68 :: f 69 :: f 70 :: f 71 :: f 72 :: f 73 :: f 74 :: f 75 :: f 76 :: f 77 :: f 78 :: f 79 :: f 80 :: f 81 :: f 82 :: f 83 :: f 84 :: f 85 :: f 86 :: f 87 :: f 88 :: f 89 :: f 90 :: f 91 :: f 92 :: f 93 :: f 94 :: f 95 :: f 96 :: f 97 :: f 98 :: f 99 :: f 100 :: f 101 :: f 102 :: f 103 :: f 104 :: f 105 :: f 106 :: f 107 :: f 108 :: f 109 :: f 110 :: f 111 :: f 112 :: f 113 :: f 114 :: f 115 :: f 116 :: f 117 :: f 118 :: f 119 :: f 120 :: f 121 :: f 122 :: f 123 :: f 124 :: f 125 :: f 126 :: f 127 :: f 128 :: f 129 :: f 130 :: f 131 :: f 132 :: f 133 :: f 134 :: f 135 :: f 136 :: f 137 :: f 138 :: f 139 :: f 140 :: f 141 :: f 142 :: f 143 :: f 144 :: f 145 :: f 146 :: f 147 :: f 148 :: f 149 :: f 150 :: f 151 :: f 152 :: f 153 :: f 154 :: f 155 :: f 156 :: f 157 :: f 158 :: f 159 :: f 160 :: f 161 :: f 162 :: f 163 :: f 164 :: f 165 :: f 166 :: f 167 :: f 168 :: f 169 :: f 170 :: f 171 :: f 172 :: f 173 :: f 174 :: f 175 :: f 176 :: f 177 :: f 178 :: f 179 :: f 180 :: f 181 :: f 182 :: f 183 :: f 184 :: f 185 :: f 186 :: f 187 :: f 188 :: f 189 :: f 190 :: f 191 :: f 192 :: f 193 :: f 194 :: f 195 :: f 196 :: f 197 :: f 198 :: f 199 :: f 200 :: f 201 :: f 202 :: f 203 :: f 204 :: f 205 :: f 206 :: f 207 :: f 208 :: f 209 :: f 210 :: f 211 :: f 212 :: f 213 :: f 214 :: f 215 :: f 216 :: f 217 :: f 218 :: f 219 :: f 220 :: f 221 :: f 222 :: f 223 :: f 224 :: f 225 :: f 226 :: f 227 :: f 228 :: f 229 :: f 230 :: f 231 :: f 232 :: f 233 :: f 234 :: f 235 :: f 236 :: f 237 :: f 238 :: f 239 :: f 240 :: f 241 :: f 242 :: f 243 :: [])), []⟩ ∧ ∀ k, slot a k = f k := letters_al a hs.size hs.defers
  rw [hf] at e11 e12
  rw [ea, e11, e12]
  have HS := Lib.hid hs
  have HF := Lib.hid hf
  have E11 := Lib.hid e11
  have E12 := Lib.hid e12
  clear hs ea hf hN hl h11 e11 h12 e12
  have hlt := cell_lt (hc 0 _ rfl)
  have HA := Lib.hid hc
  have hii : (i : Int) < 3 := by omega
  clear hc
  unfold Md.cells Hd.cells at HC
  have HC := Lib.hid HC
  conv => arg 2; whnf
  refine wp_region_eff2 (fun W => Below w.heap.size w W) [0, 1, 2, 3, 4, 5, 6, 7] [8] [9, 10, 11, 12] [_, _, _, _, _, _, _, _] [_] [_, _, _, _] [_] 13 (by kernel_rfl) rfl rfl rfl rfl rfl (by kernel_rfl) ?_
  iterate 8
    apply wpP_step _ rfl (by simp) rfl
    · intro W hW
      obtain ⟨c0, c1, c2, c3, c4, c5, c6, c7, c8, c9, c10⟩ := (HA.out.below hW hlt).eleven
      go_wp2_with fail
      exact ⟨rfl, rfl⟩
    · rfl
  refine wpP_nil ?_
  refine And.intro (below_drawn _) ?_
  go_wp2_with fail
  refine (HC.out _ (below_drawn _)).mono ?_
  rintro e wa ⟨v, rfl, hv, hba⟩
  have hva := err_v hv
  have hb : Below w.heap.size w wa := bl_trans (below_drawn _) hba
  have HB := Lib.hid hb
  clear hba hv hb
  go_wp2_with fail
  refine And.intro HB.out ?_
  unfold backC
  iterate 4
    apply wpP_step _ rfl (by simp) rfl
    · intro W hW
      go_wp2_with fail
      exact ⟨rfl, rfl⟩
    · rfl
  refine wpP_nil (And.intro HB.out ?_)
  go_wp2_with fail
  unfold outQ
  refine HN.out _ _ _ ?_ hva HB.out
  exact Sl.add (Sl.add (Sl.stay [7, 11, 12, 13, 14] HS.out HF.out (by kernel_rfl) rfl ⟨by kernel_rfl, Eq.trans (by kernel_rfl) E11.out.symm, Eq.trans (by kernel_rfl) E12.out.symm, by kernel_rfl, by kernel_rfl, trivial⟩ HL.out) (by kernel_rfl)) (by kernel_rfl)
set_option maxHeartbeats 4000000 in
theorem al_r18 (a : Act) (w : World) (N : Act → World → Prop) (Q : Exit → Act → World → Prop) (l : List (Nat × Value)) (hs : Sl 244 a l) (hl : (l.map Prod.fst).all (fun k => [7, 11, 12, 14, 16, 18].contains k) = true)
    (g i j : Nat) (hi : i < 3) (hj : j < 3) (x y : Md) (hc : CellsAt w g (i * 11) x.cells) (hd : CellsAt w g (j * 11) y.cells) (HC : ∀ W, Below w.heap.size w W → Calls Tryd.prog 21 #[.agg x.cells, .agg y.cells] W fun e w' => ∃ v, e = .returned (.tuple #[.bool (eqAns x.h x.k y.h y.k), v]) ∧ ErrAt W w' v (eqEr x.h x.k y.h y.k) ∧ Below W.heap.size W w') (h11 : l.lookup 11 = some (.slice (some ⟨g, 0, none⟩) 3 3)) (h12 : l.lookup 12 = some (.int .i64 (i : Nat))) (h18 : l.lookup 18 = some (.int .i64 (j : Nat)))
    (hN : ∀ a' w' v, Sl 244 a' ((20, v) :: ((19, .bool (eqAns x.h x.k y.h y.k)) :: l)) → ErrV v (eqEr x.h x.k y.h y.k) → Below w.heap.size w w' → N a' w') : (rAl 18).wp Tryd.prog (Exit.then N Q) a w := by
  have HN := Lib.hid hN
  have HL := Lib.hid hl
  have e11 := hs.look 11 h11
  have e12 := hs.look 12 h12
  have e18 := hs.look 18 h18
  obtain ⟨f, ea, hf⟩ : ∃ f : Nat → Value, a = ⟨(List.toArray (f 0 :: f 1 :: f 2 :: f 3 :: f 4 :: f 5 :: f 6 :: f 7 :: f 8 :: f 9 :: f 10 :: f 11 :: f 12 :: f 13 :: f 14 :: f 15 :: f 16 :: f 17 :: f 18 :: f 19 :: f 20 :: f 21 :: f 22 :: f 23 :: f 24 :: f 25 :: f 26 :: f 27 :: f 28 :: f 29 :: f 30 :: f 31 :: f 32 :: f 33 :: f 34 :: f 35 :: f 36 :: f 37 :: f 38 :: f 39 :: f 40 :: f 41 :: f 42 :: f 43 :: f 44 :: f 45 :: f 46 :: f 47 :: f 48 :: f 49 :: f 50 :: f 51 :: f 52 :: f 53 :: f 54 :: f 55 :: f 56 :: f 57 :: f 58 :: f 59 :: f 60 :: f 61 :: f 62 :: f 63 :: f 64 :: f 65 :: f 66 :: f 67 :: f 68 :: f 69 :: f 70 :: f 71 :: f 72 :: f 73 :: f 74 :: f 75 :: f 76 :: f 77 :: f 78 :: f 79 :: f 80 :: f 81 :: f 82 :: f 83 :: f 84 :: f 85 :: f 86 :: f 87 :: f 88 :: f 89 :: f 90 :: f 91 :: f 92 :: f 93 :: f 94 :: f 95 :: f 96 :: f 97 :: f 98 :: f 99 :: f 100 :: f 101 :: f 102 :: f 103 :: f 104 :: f 105 :: f 106 :: f 107 :: f 108 :: f 109 :: f 110 :: f 111 :: f 112 :: f 113 :: f 114 :: f 115 :: f 116 :: f 117 :: f 118 :: f 119 :: f 120 :: f 121 :: f 122 :: f 123 :: f 124 :: f 125 :: f 126 :: f 127 :: f 128 :: f 129 :: f 130 :: f 131 :: f 132 :: f 133 :: f 134 :: f 135 :: f 136 :: f 137 :: f 138 :: f 139 :: f 140 :: f 141 :: f 142 :: f 143 :: f 144 :: f 145 :: f 146 :: f 147 :: f 148 :: f 149 :: f 150 :: f 151 :: f 152 :: f 153 :: f 154 :: f 155 :: f 156 :: f 157 :: f 158 :: f 159 :: f 160 :: f 161 :: f 162 :: f 163 :: f 164 :: f 165 :: f 166 :: f 167 :: f 168 :: f 169 :: f 170 :: f 171 :: f 172 :: f 173 :: f 174 :: f 175 :: f 176 :: f 177 :: f 178 :: f 179 :: f 180 :: f 181 :: f 182 :: f 183 :: f 184 :: f 185 :: f 186 :: f 187 :: f 188 :: f 189 :: f 190 :: f 191 :: f 192 :: f 193 :: f 194 :: f 195 :: f 196 :: f 197 :: f 198 :: f 199 :: f 200 :: f 201 :: f 202 :: f 203 :: f 204 :: f 205 :: f 206 :: f 207 :: f 208 :: f 209 :: f 210 :: f 211 :: f 212 :: f 213 :: f 214 :: f 215 :: f 216 :: f 217 :: f 218 :: f 219 :: f 220 :: f 221 :: f 222 :: f 223 :: f 224 :: f 225 :: f 226 :: f 227 :: f 228 :: f 229 :: f 230 :: f 231 :: f 232 :: f 233 :: f 234 :: f 235 :: f 236 :: f 237 :: f 238 :: f 239 :: f 240 :: f 241 :: f 242 :: f 243 :: [])), []⟩ ∧ ∀ k, slot a k = f k := letters_al a hs.size hs.defers
  rw [hf] at e11 e12 e18
  rw [ea, e11, e12, e18]
  have HS := Lib.hid hs
  have HF := Lib.hid hf
  have E11 := Lib.hid e11
  have E12 := Lib.hid e12
  have E18 := Lib.hid e18
  clear hs ea hf hN hl h11 e11 h12 e12 h18 e18
  have hlt := cell_lt (hc 0 _ rfl)
  have HA := Lib.hid hc
  have hii : (i : Int) < 3 := by omega
  have HD := Lib.hid hd
  have hjj : (j : Int) < 3 := by omega
  clear hc hd
  unfold Md.cells Hd.cells at HC
  have HC := Lib.hid HC
  conv => arg 2; whnf
  refine wp_region_eff2 (fun W => Below w.heap.size w W) [0, 1, 2, 3, 4, 5, 6, 7] [8] [9, 10, 11, 12] [_, _, _, _, _, _, _, _] [_] [_, _, _, _] [_] 13 (by kernel_rfl) rfl rfl rfl rfl rfl (by kernel_rfl) ?_
  iterate 8
    apply wpP_step _ rfl (by simp) rfl
    · intro W hW
      obtain ⟨c0, c1, c2, c3, c4, c5, c6, c7, c8, c9, c10⟩ := (HA.out.below hW hlt).eleven
      obtain ⟨d0, d1, d2, d3, d4, d5, d6, d7, d8, d9, d10⟩ := (HD.out.below hW hlt).eleven
      go_wp2_with fail
      exact ⟨rfl, rfl⟩
    · rfl
  refine wpP_nil ?_
  refine And.intro (below_drawn _) ?_
  go_wp2_with fail
  refine (HC.out _ (below_drawn _)).mono ?_
  rintro e wa ⟨v, rfl, hv, hba⟩
  have hva := err_v hv
  have hb : Below w.heap.size w wa := bl_trans (below_drawn _) hba
  have HB := Lib.hid hb
  clear hba hv hb
  go_wp2_with fail
  refine And.intro HB.out ?_
  unfold backC
  iterate 4
    apply wpP_step _ rfl (by simp) rfl
    · intro W hW
      go_wp2_with fail
      exact ⟨rfl, rfl⟩
    · rfl
  refine wpP_nil (And.intro HB.out ?_)
  go_wp2_with fail
  unfold outQ
  refine HN.out _ _ _ ?_ hva HB.out
  exact Sl.add (Sl.add (Sl.stay [7, 11, 12, 14, 16, 18] HS.out HF.out (by kernel_rfl) rfl ⟨by kernel_rfl, Eq.trans (by kernel_rfl) E11.out.symm, Eq.trans (by kernel_rfl) E12.out.symm, by kernel_rfl, by kernel_rfl, Eq.trans (by kernel_rfl) E18.out.symm, trivial⟩ HL.out) (by kernel_rfl)) (by kernel_rfl)
set_option maxHeartbeats 4000000 in
theorem al_r19 (a : Act) (w : World) (N : Act → World → Prop) (Q : Exit → Act → World → Prop) (l : List (Nat × Value)) (hs : Sl 244 a l) (hl : (l.map Prod.fst).all (fun k => [7, 11, 12, 14, 16, 18, 19, 20].contains k) = true)
    (g i j : Nat) (hi : i < 3) (hj : j < 3) (x y : Md) (hc : CellsAt w g (i * 11) x.cells) (hd : CellsAt w g (j * 11) y.cells) (HC : ∀ W, Below w.heap.size w W → Calls Tryd.prog 21 #[.agg x.cells, .agg y.cells] W fun e w' => ∃ v, e = .returned (.tuple #[.bool (eqAns x.h x.k y.h y.k), v]) ∧ ErrAt W w' v (eqEr x.h x.k y.h y.k) ∧ Below W.heap.size W w') (h11 : l.lookup 11 = some (.slice (some ⟨g, 0, none⟩) 3 3)) (h18 : l.lookup 18 = some (.int .i64 (i : Nat))) (h12 : l.lookup 12 = some (.int .i64 (j : Nat)))
    (hN : ∀ a' w' v, Sl 244 a' ((22, v) :: ((21, .bool (eqAns x.h x.k y.h y.k)) :: l)) → ErrV v (eqEr x.h x.k y.h y.k) → Below w.heap.size w w' → N a' w') : (rAl 19).wp Tryd.prog (Exit.then N Q) a w := by
  have HN := Lib.hid hN
  have HL := Lib.hid hl
  have e11 := hs.look 11 h11
  have e18 := hs.look 18 h18
  have e12 := hs.look 12 h12
  obtain ⟨f, ea, hf⟩ : ∃ f : Nat → Value, a = ⟨(List.toArray (f 0 :: f 1 :: f 2 :: f 3 :: f 4 :: f 5 :: f 6 :: f 7 :: f 8 :: f 9 :: f 10 :: f 11 :: f 12 :: f 13 :: f 14 :: f 15 :: f 16 :: f 17 :: f 18 :: f 19 :: f 20 :: f 21 :: f 22 :: f 23 :: f 24 :: f 25 :: f 26 :: f 27 :: f 28 :: f 29 :: f 30 :: f 31 :: f 32 :: f 33 :: f 34 :: f 35 :: f 36 :: f 37 :: f 38 :: f 39 :: f 40 :: f 41 :: f 42 :: f 43 :: f 44 :: f 45 :: f 46 :: f 47 :: f 48 :: f 49 :: f 50 :: f 51 :: f 52 :: f 53 :: f 54 :: f 55 :: f 56 :: f 57 :: f 58 :: f 59 :: f 60 :: f 61 :: f 62 :: f 63 :: f 64 :: f 65 :: f 66 :: f 67 :: f 68 :: f 69 :: f 70 :: f 71 :: f 72 :: f 73 :: f 74 :: f 75 :: f 76 :: f 77 :: f 78 :: f 79 :: f 80 :: f 81 :: f 82 :: f 83 :: f 84 :: f 85 :: f 86 :: f 87 :: f 88 :: f 89 :: f 90 :: f 91 :: f 92 :: f 93 :: f 94 :: f 95 :: f 96 :: f 97 :: f 98 :: f 99 :: f 100 :: f 101 :: f 102 :: f 103 :: f 104 :: f 105 :: f 106 :: f 107 :: f 108 :: f 109 :: f 110 :: f 111 :: f 112 :: f 113 :: f 114 :: f 115 :: f 116 :: f 117 :: f 118 :: f 119 :: f 120 :: f 121 :: f 122 :: f 123 :: f 124 :: f 125 :: f 126 :: f 127 :: f 128 :: f 129 :: f 130 :: f 131 :: f 132 :: f 133 :: f 134 :: f 135 :: f 136 :: f 137 :: f 138 :: f 139 :: f 140 :: f 141 :: f 142 :: f 143 :: f 144 :: f 145 :: f 146 :: f 147 :: f 148 :: f 149 :: f 150 :: f 151 :: f 152 :: f 153 :: f 154 :: f 155 :: f 156 :: f 157 :: f 158 :: f 159 :: f 160 :: f 161 :: f 162 :: f 163 :: f 164 :: f 165 :: f 166 :: f 167 :: f 168 :: f 169 :: f 170 :: f 171 :: f 172 :: f 173 :: f 174 :: f 175 :: f 176 :: f 177 :: f 178 :: f 179 :: f 180 :: f 181 :: f 182 :: f 183 :: f 184 :: f 185 :: f 186 :: f 187 :: f 188 :: f 189 :: f 190 :: f 191 :: f 192 :: f 193 :: f 194 :: f 195 :: f 196 :: f 197 :: f 198 :: f 199 :: f 200 :: f 201 :: f 202 :: f 203 :: f 204 :: f 205 :: f 206 :: f 207 :: f 208 :: f 209 :: f 210 :: f 211 :: f 212 :: f 213 :: f 214 :: f 215 :: f 216 :: f 217 :: f 218 :: f 219 :: f 220 :: f 221 :: f 222 :: f 223 :: f 224 :: f 225 :: f 226 :: f 227 :: f 228 :: f 229 :: f 230 :: f 231 :: f 232 :: f 233 :: f 234 :: f 235 :: f 236 :: f 237 :: f 238 :: f 239 :: f 240 :: f 241 :: f 242 :: f 243 :: [])), []⟩ ∧ ∀ k, slot a k = f k := letters_al a hs.size hs.defers
  rw [hf] at e11 e18 e12
  rw [ea, e11, e18, e12]
  have HS := Lib.hid hs
  have HF := Lib.hid hf
  have E11 := Lib.hid e11
  have E18 := Lib.hid e18
  have E12 := Lib.hid e12
  clear hs ea hf hN hl h11 e11 h18 e18 h12 e12
  have hlt := cell_lt (hc 0 _ rfl)
  have HA := Lib.hid hc
  have hii : (i : Int) < 3 := by omega
  have HD := Lib.hid hd
  have hjj : (j : Int) < 3 := by omega
  clear hc hd
  unfold Md.cells Hd.cells at HC
  have HC := Lib.hid HC
  conv => arg 2; whnf
  refine wp_region_eff2 (fun W => Below w.heap.size w W) [0, 1, 2, 3, 4, 5, 6, 7] [8] [9, 10, 11, 12] [_, _, _, _, _, _, _, _] [_] [_, _, _, _] [_] 13 (by kernel_rfl) rfl rfl rfl rfl rfl (by kernel_rfl) ?_
  iterate 8
    apply wpP_step _ rfl (by simp) rfl
    · intro W hW
      obtain ⟨c0, c1, c2, c3, c4, c5, c6, c7, c8, c9, c10⟩ := (HA.out.below hW hlt).eleven
      obtain ⟨d0, d1, d2, d3, d4, d5, d6, d7, d8, d9, d10⟩ := (HD.out.below hW hlt).eleven
      go_wp2_with fail
      exact ⟨rfl, rfl⟩
    · rfl
  refine wpP_nil ?_
  refine And.intro (below_drawn _) ?_
  go_wp2_with fail
  refine (HC.out _ (below_drawn _)).mono ?_
  rintro e wa ⟨v, rfl, hv, hba⟩
  have hva := err_v hv
  have hb : Below w.heap.size w wa := bl_trans (below_drawn _) hba
  have HB := Lib.hid hb
  clear hba hv hb
  go_wp2_with fail
  refine And.intro HB.out ?_
  unfold backC
  iterate 4
    apply wpP_step _ rfl (by simp) rfl
    · intro W hW
      go_wp2_with fail
      exact ⟨rfl, rfl⟩
    · rfl
  refine wpP_nil (And.intro HB.out ?_)
  go_wp2_with fail
  unfold outQ
  refine HN.out _ _ _ ?_ hva HB.out
  exact Sl.add (Sl.add (Sl.stay [7, 11, 12, 14, 16, 18, 19, 20] HS.out HF.out (by kernel_rfl) rfl ⟨by kernel_rfl, Eq.trans (by kernel_rfl) E11.out.symm, Eq.trans (by kernel_rfl) E12.out.symm, by kernel_rfl, by kernel_rfl, Eq.trans (by kernel_rfl) E18.out.symm, by kernel_rfl, by kernel_rfl, trivial⟩ HL.out) (by kernel_rfl)) (by kernel_rfl)
set_option maxHeartbeats 4000000 in
theorem al_r30 (a : Act) (w : World) (N : Act → World → Prop) (Q : Exit → Act → World → Prop) (l : List (Nat × Value)) (hs : Sl 244 a l) (hl : (l.map Prod.fst).all (fun k => [7, 11, 12, 14, 16, 18, 19, 28].contains k) = true)
    (g i j : Nat) (hi : i < 3) (hj : j < 3) (x y : Md) (hc : CellsAt w g (i * 11) x.cells) (hd : CellsAt w g (j * 11) y.cells) (HC : ∀ W, Below w.heap.size w W → Calls Tryd.prog 21 #[.agg x.cells, .agg y.cells] W fun e w' => ∃ v, e = .returned (.tuple #[.bool (eqAns x.h x.k y.h y.k), v]) ∧ ErrAt W w' v (eqEr x.h x.k y.h y.k) ∧ Below W.heap.size W w') (h11 : l.lookup 11 = some (.slice (some ⟨g, 0, none⟩) 3 3)) (h18 : l.lookup 18 = some (.int .i64 (i : Nat))) (h28 : l.lookup 28 = some (.int .i64 (j : Nat)))
    (hN : ∀ a' w' v, Sl 244 a' ((30, v) :: ((29, .bool (eqAns x.h x.k y.h y.k)) :: l)) → ErrV v (eqEr x.h x.k y.h y.k) → Below w.heap.size w w' → N a' w') : (rAl 30).wp Tryd.prog (Exit.then N Q) a w := by
  have HN := Lib.hid hN
  have HL := Lib.hid hl
  have e11 := hs.look 11 h11
  have e18 := hs.look 18 h18
  have e28 := hs.look 28 h28
  obtain ⟨f, ea, hf⟩ : ∃ f : Nat → Value, a = ⟨(List.toArray (f 0 :: f 1 :: f 2 :: f 3 :: f 4 :: f 5 :: f 6 :: f 7 :: f 8 :: f 9 :: f 10 :: f 11 :: f 12 :: f 13 :: f 14 :: f 15 :: f 16 :: f 17 :: f 18 :: f 19 :: f 20 :: f 21 :: f 22 :: f 23 :: f 24 :: f 25 :: f 26 :: f 27 :: f 28 :: f 29 :: f 30 :: f 31 :: f 32 :: f 33 :: f 34 :: f 35 :: f 36 :: f 37 :: f 38 :: f 39 :: f 40 :: f 41 :: f 42 :: f 43 :: f 44 :: f 45 :: f 46 :: f 47 :: f 48 :: f 49 :: f 50 :: f 51 :: f 52 :: f 53 :: f 54 :: f 55 :: f 56 :: f 57 :: f 58 :: f 59 :: f 60 :: f 61 :: f 62 :: f 63 :: f 64 :: f 65 :: f 66 :: f 67 :: f 68 :: f 69 :: f 70 :: f 71 :: f 72 :: f 73 :: f 74 :: f 75 :: f 76 :: f 77 :: f 78 :: f 79 :: f 80 :: f 81 :: f 82 :: f 83 :: f 84 :: f 85 :: f 86 :: f 87 :: f 88 :: f 89 :: f 90 :: f 91 :: f 92 :: f 93 :: f 94 :: f 95 :: f 96 :: f 97 :: f 98 :: f 99 :: f 100 :: f 101 :: f 102 :: f 103 :: f 104 :: f 105 :: f 106 :: f 107 :: f 108 :: f 109 :: f 110 :: f 111 :: f 112 :: f 113 :: f 114 :: f 115 :: f 116 :: f 117 :: f 118 :: f 119 :: f 120 :: f 121 :: f 122 :: f 123 :: f 124 :: f 125 :: f 126 :: f 127 :: f 128 :: f 129 :: f 130 :: f 131 :: f 132 :: f 133 :: f 134 :: f 135 :: f 136 :: f 137 :: f 138 :: f 139 :: f 140 :: f 141 :: f 142 :: f 143 :: f 144 :: f 145 :: f 146 :: f 147 :: f 148 :: f 149 :: f 150 :: f 151 :: f 152 :: f 153 :: f 154 :: f 155 :: f 156 :: f 157 :: f 158 :: f 159 :: f 160 :: f 161 :: f 162 :: f 163 :: f 164 :: f 165 :: f 166 :: f 167 :: f 168 :: f 169 :: f 170 :: f 171 :: f 172 :: f 173 :: f 174 :: f 175 :: f 176 :: f 177 :: f 178 :: f 179 :: f 180 :: f 181 :: f 182 :: f 183 :: f 184 :: f 185 :: f 186 :: f 187 :: f 188 :: f 189 :: f 190 :: f 191 :: f 192 :: f 193 :: f 194 :: f 195 :: f 196 :: f 197 :: f 198 :: f 199 :: f 200 :: f 201 :: f 202 :: f 203 :: f 204 :: f 205 :: f 206 :: f 207 :: f 208 :: f 209 :: f 210 :: f 211 :: f 212 :: f 213 :: f 214 :: f 215 :: f 216 :: f 217 :: f 218 :: f 219 :: f 220 :: f 221 :: f 222 :: f 223 :: f 224 :: f 225 :: f 226 :: f 227 :: f 228 :: f 229 :: f 230 :: f 231 :: f 232 :: f 233 :: f 234 :: f 235 :: f 236 :: f 237 :: f 238 :: f 239 :: f 240 :: f 241 :: f 242 :: f 243 :: [])), []⟩ ∧ ∀ k, slot a k = f k := letters_al a hs.size hs.defers
  rw [hf] at e11 e18 e28
  rw [ea, e11, e18, e28]
  have HS := Lib.hid hs
  have HF := Lib.hid hf
  have E11 := Lib.hid e11
  have E18 := Lib.hid e18
  have E28 := Lib.hid e28
  clear hs ea hf hN hl h11 e11 h18 e18 h28 e28
  have hlt := cell_lt (hc 0 _ rfl)
  have HA := Lib.hid hc
  have hii : (i : Int) < 3 := by omega
  have HD := Lib.hid hd
  have hjj : (j : Int) < 3 := by omega
  clear hc hd
  unfold Md.cells Hd.cells at HC
  have HC := Lib.hid HC
  conv => arg 2; whnf
  refine wp_region_eff2 (fun W => Below w.heap.size w W) [0, 1, 2, 3, 4, 5, 6, 7] [8] [9, 10, 11, 12] [_, _, _, _, _, _, _, _] [_] [_, _, _, _] [_] 13 (by kernel_rfl) rfl rfl rfl rfl rfl (by kernel_rfl) ?_
  iterate 8
    apply wpP_step _ rfl (by simp) rfl
    · intro W hW
      obtain ⟨c0, c1, c2, c3, c4, c5, c6, c7, c8, c9, c10⟩ := (HA.out.below hW hlt).eleven
      obtain ⟨d0, d1, d2, d3, d4, d5, d6, d7, d8, d9, d10⟩ := (HD.out.below hW hlt).eleven
      go_wp2_with fail
      exact ⟨rfl, rfl⟩
    · rfl
  refine wpP_nil ?_
  refine And.intro (below_drawn _) ?_
  go_wp2_with fail
  refine (HC.out _ (below_drawn _)).mono ?_
  rintro e wa ⟨v, rfl, hv, hba⟩
  have hva := err_v hv
  have hb : Below w.heap.size w wa := bl_trans (below_drawn _) hba
  have HB := Lib.hid hb
  clear hba hv hb
  go_wp2_with fail
  refine And.intro HB.out ?_
  unfold backC
  iterate 4
    apply wpP_step _ rfl (by simp) rfl
    · intro W hW
      go_wp2_with fail
      exact ⟨rfl, rfl⟩
    · rfl
  refine wpP_nil (And.intro HB.out ?_)
  go_wp2_with fail
  unfold outQ
  refine HN.out _ _ _ ?_ hva HB.out
  exact Sl.add (Sl.add (Sl.stay [7, 11, 12, 14, 16, 18, 19, 28] HS.out HF.out (by kernel_rfl) rfl ⟨by kernel_rfl, Eq.trans (by kernel_rfl) E11.out.symm, by kernel_rfl, by kernel_rfl, by kernel_rfl, Eq.trans (by kernel_rfl) E18.out.symm, by kernel_rfl, Eq.trans (by kernel_rfl) E28.out.symm, trivial⟩ HL.out) (by kernel_rfl)) (by kernel_rfl)
set_option maxHeartbeats 4000000 in
theorem al_r31 (a : Act) (w : World) (N : Act → World → Prop) (Q : Exit → Act → World → Prop) (l : List (Nat × Value)) (hs : Sl 244 a l) (hl : (l.map Prod.fst).all (fun k => [7, 11, 12, 14, 16, 18, 19, 28, 29].contains k) = true)
    (g i j : Nat) (hi : i < 3) (hj : j < 3) (x y : Md) (hc : CellsAt w g (i * 11) x.cells) (hd : CellsAt w g (j * 11) y.cells) (HC : ∀ W, Below w.heap.size w W → Calls Tryd.prog 21 #[.agg x.cells, .agg y.cells] W fun e w' => ∃ v, e = .returned (.tuple #[.bool (eqAns x.h x.k y.h y.k), v]) ∧ ErrAt W w' v (eqEr x.h x.k y.h y.k) ∧ Below W.heap.size W w') (h11 : l.lookup 11 = some (.slice (some ⟨g, 0, none⟩) 3 3)) (h12 : l.lookup 12 = some (.int .i64 (i : Nat))) (h28 : l.lookup 28 = some (.int .i64 (j : Nat)))
    (hN : ∀ a' w' v, Sl 244 a' ((32, v) :: ((31, .bool (eqAns x.h x.k y.h y.k)) :: l)) → ErrV v (eqEr x.h x.k y.h y.k) → Below w.heap.size w w' → N a' w') : (rAl 31).wp Tryd.prog (Exit.then N Q) a w := by
  have HN := Lib.hid hN
  have HL := Lib.hid hl
  have e11 := hs.look 11 h11
  have e12 := hs.look 12 h12
  have e28 := hs.look 28 h28
  obtain ⟨f, ea, hf⟩ : ∃ f : Nat → Value, a = ⟨(List.toArray (f 0 :: f 1 :: f 2 :: f 3 :: f 4 :: f 5 :: f 6 :: f 7 :: f 8 :: f 9 :: f 10 :: f 11 :: f 12 :: f 13 :: f 14 :: f 15 :: f 16 :: f 17 :: f 18 :: f 19 :: f 20 :: f 21 :: f 22 :: f 23 :: f 24 :: f 25 :: f 26 :: f 27 :: f 28 :: f 29 :: f 30 :: f 31 :: f 32 :: f 33 :: f 34 :: f 35 :: f 36 :: f 37 :: f 38 :: f 39 :: f 40 :: f 41 :: f 42 :: f 43 :: f 44 :: f 45 :: f 46 :: f 47 :: f 48 :: f 49 :: f 50 :: f 51 :: f 52 :: f 53 :: f 54 :: f 55 :: f 56 :: f 57 :: f 58 :: f 59 :: f 60 :: f 61 :: f 62 :: f 63 :: f 64 :: f 65 :: f 66 :: f 67 :: f 68 :: f 69 :: f 70 :: f 71 :: f 72 :: f 73 :: f 74 :: f 75 :: f 76 :: f 77 :: f 78 :: f 79 :: f 80 :: f 81 :: f 82 :: f 83 :: f 84 :: f 85 :: f 86 :: f 87 :: f 88 :: f 89 :: f 90 :: f 91 :: f 92 :: f 93 :: f 94 :: f 95 :: f 96 :: f 97 :: f 98 :: f 99 :: f 100 :: f 101 :: f 102 :: f 103 :: f 104 :: f 105 :: f 106 :: f 107 :: f 108 :: f 109 :: f 110 :: f 111 :: f 112 :: f 113 :: f 114 :: f 115 :: f 116 :: f 117 :: f 118 :: f 119 :: f 120 :: f 121 :: f 122 :: f 123 :: f 124 :: f 125 :: f 126 :: f 127 :: f 128 :: f 129 :: f 130 :: f 131 :: f 132 :: f 133 :: f 134 :: f 135 :: f 136 :: f 137 :: f 138 :: f 139 :: f 140 :: f 141 :: f 142 :: f 143 :: f 144 :: f 145 :: f 146 :: f 147 :: f 148 :: f 149 :: f 150 :: f 151 :: f 152 :: f 153 :: f 154 :: f 155 :: f 156 :: f 157 :: f 158 :: f 159 :: f 160 :: f 161 :: f 162 :: f 163 :: f 164 :: f 165 :: f 166 :: f 167 :: f 168 :: f 169 :: f 170 :: f 171 :: f 172 :: f 173 :: f 174 :: f 175 :: f 176 :: f 177 :: f 178 :: f 179 :: f 180 :: f 181 :: f 182 :: f 183 :: f 184 :: f 185 :: f 186 :: f 187 :: f 188 :: f 189 :: f 190 :: f 191 :: f 192 :: f 193 :: f 194 :: f 195 :: f 196 :: f 197 :: f 198 :: f 199 :: f 200 :: f 201 :: f 202 :: f 203 :: f 204 :: f 205 :: f 206 :: f 207 :: f 208 :: f 209 :: f 210 :: f 211 :: f 212 :: f 213 :: f 214 :: f 215 :: f 216 :: f 217 :: f 218 :: f 219 :: f 220 :: f 221 :: f 222 :: f 223 :: f 224 :: f 225 :: f 226 :: f 227 :: f 228 :: f 229 :: f 230 :: f 231 :: f 232 :: f 233 :: f 234 :: f 235 :: f 236 :: f 237 :: f 238 :: f 239 :: f 240 :: f 241 :: f 242 :: f 243 :: [])), []⟩ ∧ ∀ k, slot a k = f k := letters_al a hs.size hs.defers
  rw [hf] at e11 e12 e28
  rw [ea, e11, e12, e28]
  have HS := Lib.hid hs
  have HF := Lib.hid hf
  have E11 := Lib.hid e11
  have E12 := Lib.hid e12
  have E28 := Lib.hid e28
  clear hs ea hf hN hl h11 e11 h12 e12 h28 e28
  have hlt := cell_lt (hc 0 _ rfl)
  have HA := Lib.hid hc
  have hii : (i : Int) < 3 := by omega
  have HD := Lib.hid hd
  have hjj : (j : Int) < 3 := by omega
  clear hc hd
  unfold Md.cells Hd.cells at HC
  have HC := Lib.hid HC
  conv => arg 2; whnf
  refine wp_region_eff2 (fun W => Below w.heap.size w W) [0, 1, 2, 3, 4, 5, 6, 7] [8] [9, 10, 11, 12] [_, _, _, _, _, _, _, _] [_] [_, _, _, _] [_] 13 (by kernel_rfl) rfl rfl rfl rfl rfl (by kernel_rfl) ?_
  iterate 8
    apply wpP_step _ rfl (by simp) rfl
    · intro W hW
      obtain ⟨c0, c1, c2, c3, c4, c5, c6, c7, c8, c9, c10⟩ := (HA.out.below hW hlt).eleven
      obtain ⟨d0, d1, d2, d3, d4, d5, d6, d7, d8, d9, d10⟩ := (HD.out.below hW hlt).eleven
      go_wp2_with fail
      exact ⟨rfl, rfl⟩
    · rfl
  refine wpP_nil ?_
  refine And.intro (below_drawn _) ?_
  go_wp2_with fail
  refine (HC.out _ (below_drawn _)).mono ?_
  rintro e wa ⟨v, rfl, hv, hba⟩
  have hva := err_v hv
  have hb : Below w.heap.size w wa := bl_trans (below_drawn _) hba
  have HB := Lib.hid hb
  clear hba hv hb
  go_wp2_with fail
  refine And.intro HB.out ?_
  unfold backC
  iterate 4
    apply wpP_step _ rfl (by simp) rfl
    · intro W hW
      go_wp2_with fail
      exact ⟨rfl, rfl⟩
    · rfl
  refine wpP_nil (And.intro HB.out ?_)
  go_wp2_with fail
  unfold outQ
  refine HN.out _ _ _ ?_ hva HB.out
  exact Sl.add (Sl.add (Sl.stay [7, 11, 12, 14, 16, 18, 19, 28, 29] HS.out HF.out (by kernel_rfl) rfl ⟨by kernel_rfl, Eq.trans (by kernel_rfl) E11.out.symm, Eq.trans (by kernel_rfl) E12.out.symm, by kernel_rfl, by kernel_rfl, by kernel_rfl, by kernel_rfl, Eq.trans (by kernel_rfl) E28.out.symm, by kernel_rfl, trivial⟩ HL.out) (by kernel_rfl)) (by kernel_rfl)
end Go.Proofs.YthdmmhiifkebeaaDoor
