/-
  Contracts of guiselaw9's pick and key. Written by an AI agent.
-/
import Derived.Test.YtlhfickniegooaaDoorPk25
import Derived.Test.YtlhfickniegooaaDoorPk26
namespace Go.Proofs.YtlhfickniegooaaDoor
open Go.RowKit
set_option maxRecDepth 100000

theorem neg_int {a : Int} (h1 : -9223372036854775807 ≤ a) (h2 : a ≤ 9223372036854775807) (w : World) : (Op.unary .neg (.int .i64 a)).run Tryd.prog w = .ok (.int .i64 (-a)) w := by
  have hw : IntKind.i64.wrap (-a) = -a := in_wrap ⟨by simp [IntKind.min, IntKind.signed, IntKind.bits]; omega, by simp [IntKind.max, IntKind.signed, IntKind.bits]; omega⟩
  have e : (0 : Int) - a = -a := by omega
  simp [Op.unary, Op.intArith, e, hw]
theorem rem_nat {a b : Nat} (h1 : a ≤ 9223372036854775807) (hb : 0 < b) (w : World) : (binOp .rem 3 (.int .i64 (a : Int)) (.int .i64 (b : Int))).run Tryd.prog w = .ok (.int .i64 ((a % b : Nat) : Int)) w := by
  have e : (a : Int).tmod (b : Int) = ((a % b : Nat) : Int) := by rw [Int.tmod_eq_emod_of_nonneg (by omega)]; exact (Int.natCast_emod _ _).symm
  have h3 : a % b ≤ a := Nat.mod_le _ _
  have hw : IntKind.i64.wrap ((a % b : Nat) : Int) = ((a % b : Nat) : Int) := in_wrap ⟨by simp only [IntKind.min, IntKind.signed, IntKind.bits]; simp; omega, by simp only [IntKind.max, IntKind.signed, IntKind.bits]; simp; omega⟩
  have hb' : ¬ (b : Int) = 0 := by omega
  simp only [binOp, Op.intArith, Op.intDiv]
  simp only [hb', if_false, e, hw]
  simp
theorem quo_nat {a b : Nat} (h1 : a ≤ 9223372036854775807) (hb : 0 < b) (w : World) : (binOp .quo 3 (.int .i64 (a : Int)) (.int .i64 (b : Int))).run Tryd.prog w = .ok (.int .i64 ((a / b : Nat) : Int)) w := by
  have e : (a : Int).tdiv (b : Int) = ((a / b : Nat) : Int) := by rw [Int.tdiv_eq_ediv_of_nonneg (by omega)]; exact (Int.natCast_ediv _ _).symm
  have h3 : a / b ≤ a := Nat.div_le_self _ _
  have h4 : ((a / b : Nat) : Int) ≤ (a : Int) := Int.ofNat_le.2 h3
  have h5 : (0 : Int) ≤ ((a / b : Nat) : Int) := Int.natCast_nonneg _
  have hw : ∀ z : Int, 0 ≤ z → z ≤ (a : Int) → IntKind.i64.wrap z = z := fun z h6 h7 => in_wrap ⟨by simp only [IntKind.min, IntKind.signed, IntKind.bits]; simp; omega, by simp only [IntKind.max, IntKind.signed, IntKind.bits]; simp; omega⟩
  have hw := hw _ h5 h4
  have hb' : ¬ (b : Int) = 0 := by omega
  simp only [binOp, Op.intArith, Op.intDiv]
  simp only [hb', if_false, e, hw]
  simp
theorem conv_byte (n : Nat) (w : World) : (convert 3 5 (.int .i64 (n : Int))).run Tryd.prog w = .ok (.int .u8 ((UInt8.ofNat n).toNat : Int)) w := by
  have e : ((UInt8.ofNat n).toNat : Int) = IntKind.u8.wrap (n : Int) := by
    rw [UInt8.toNat_ofNat']
    simp [IntKind.wrap, IntKind.signed, IntKind.bits]
  rw [e]
  simp [convert, run_underlying Tryd.underlying3, run_underlying Tryd.underlying5, Conv.intToInt]
theorem shl_all (i : Fin 900) (w : World) : (binOp .shl 26 (.int .u64 ((i.val : Nat) : Int)) (.int .u64 40)).run Tryd.prog w = .ok (.int .u64 ((i.val * 1099511627776 : Nat) : Int)) w := by
  have hi := i.isLt
  have e : IntKind.u64.wrap ((i.val : Int) * 2 ^ 40) = ((i.val * 1099511627776 : Nat) : Int) := by
    have : (i.val : Int) * 2 ^ 40 = ((i.val * 1099511627776 : Nat) : Int) := by omega
    rw [this]
    exact in_wrap ⟨by simp [IntKind.min, IntKind.signed]; omega, by simp [IntKind.max, IntKind.signed, IntKind.bits]; omega⟩
  have e2 : IntKind.u64.wrap ((i.val : Int) * 2 ^ min 40 IntKind.u64.bits) = ((i.val * 1099511627776 : Nat) : Int) := e
  simp only [binOp, Op.shift]
  simp only [show ¬ (40 : Int) < 0 by omega, if_false, show (40 : Int).toNat = 40 from rfl, e2]
  simp
theorem shl_forty {n : Nat} (hn : n < 900) (w : World) : (binOp .shl 26 (.int .u64 (n : Int)) (.int .u64 40)).run Tryd.prog w = .ok (.int .u64 ((n * 1099511627776 : Nat) : Int)) w := by
  have hall : ∀ i : Fin 900, (binOp .shl 26 (.int .u64 ((i.val : Nat) : Int)) (.int .u64 40)).run Tryd.prog w = .ok (.int .u64 ((i.val * 1099511627776 : Nat) : Int)) w := by
    intro i
    exact shl_all i w
  exact hall ⟨n, hn⟩
theorem conv_two (W : World) (a b : UInt8) (t : TypeId) : (convert 92 9 (.slice (some ⟨W.heap.size, 0, none⟩) 2 2)).run Tryd.prog (W.alloc (.cells #[.int .u8 a.toNat, .int .u8 b.toNat] t)) = .ok (.string ⟨#[a, b]⟩) (W.alloc (.cells #[.int .u8 a.toNat, .int .u8 b.toNat] t)) :=
  run_convert_bytes_back _ _ _ 5 _ _ [a, b] Tryd.underlying92 Tryd.underlying5 Tryd.underlying9 (fun j hj => by
    have : j = 0 ∨ j = 1 := by
      have : j < 2 := by simpa using hj
      omega
    rcases this with rfl | rfl <;> simp [Addr.add])
/-- Which of n things a raw number speaks of. -/
def pkN (c : Int) (n : Nat) : Nat := (if c < 0 then (-(c + 1)).toNat else c.toNat) % n
theorem pkN_lt (c : Int) {n : Nat} (h : 0 < n) : pkN c n < n := Nat.mod_lt _ h
theorem pkN_nat {k n : Nat} (h : k < n) : pkN (k : Int) n = k := by
  unfold pkN
  rw [if_neg (by omega), Int.toNat_natCast, Nat.mod_eq_of_lt h]
theorem kpick_any {c : Int} (hc : okInt c) {n : Nat} (hn : 0 < n) (w : World) : Calls Tryd.prog 18 #[.int .i64 c, .int .i64 (n : Int)] w fun e w' => e = .returned (.int .i64 ((pkN c n : Nat) : Int)) ∧ w' = w := by
  unfold okInt at hc
  refine calls_ev (vs := [.int .i64 c, .int .i64 (n : Int)]) 13 Tryd.func18 lp_body (by kernel_rfl) (by simp) fun a0 h0 => ?_
  unfold lpBody
  refine wp_seq (rg_wp (lp_r0 h0 fun a1 h1 => ?_))
  by_cases h : c < 0
  · refine wp_seq (wp_seq (rg_wp (lp_r1 (b6 := true) h1 rfl (decide_eq_true h) fun a2 h2 => wp_cond_true (h2.look 6 rfl) (wpl (rg_wp (lp_r2 h2 rfl (by omega) (fun w => neg_int (by omega) (by omega) w) fun a3 h3 => ?_))))))
    have e : -(c + 1) = ((-(c + 1)).toNat : Int) := by omega
    rw [e] at h3
    refine wp_seq (rg_wp (lp_r3 h3 rfl rfl (fun w => rem_nat (by omega) hn w) fun a4 h4 => wp_ret ?_))
    refine ret1 rfl h4 rfl ⟨?_, rfl⟩
    unfold pkN
    rw [if_pos h]
  · refine wp_seq (wp_seq (rg_wp (lp_r1 (b6 := false) h1 rfl (decide_eq_false h) fun a2 h2 => wpo (h2.look 6 rfl) ?_)))
    have e : c = (c.toNat : Int) := by omega
    rw [e] at h2
    refine wp_seq (rg_wp (lp_r3 h2 rfl rfl (fun w => rem_nat (by omega) hn w) fun a4 h4 => wp_ret ?_))
    refine ret1 rfl h4 rfl ⟨?_, rfl⟩
    unfold pkN
    rw [if_neg h]

theorem pD_new (kind : Int) (type : ByteArray) (n f : Int) (s : ByteArray) (w : World) (B : Nat) : (pD kind type n f s).at w (fun b => B ≤ b) m0 := pD_at _ _ _ _ _ _ _
theorem key_tag {n r : Nat} (h : n % 9 = r) (h3 : n ≠ 3) : keyD n = kT r n := by unfold keyD tgK; rw [if_neg h3, h]
theorem items_at {w : World} {g B : Nat} {t : TypeId} {cs : Array Value} (h : Blk w g t cs) (hB : B ≤ g) (hd : Hd) (f : Fo) (c : Nat) (hf : f.len ≤ c) (hc : c ≤ 9223372036854775807) (hp : hd.path = []) (hF : FoAt w (fun b => B ≤ b) g 0 f) : Dt.at ⟨hd, f⟩ w (fun b => B ≤ b) ⟨none, 0, some ⟨g, 0, none⟩, c⟩ :=
  ⟨.inl hp, by show hd.path.length ≤ 0; rw [hp]; exact Nat.le_refl _, Nat.zero_le _, .inr ⟨g, 0, rfl, hB, hF⟩, hf, hc⟩
theorem path_one {w : World} {g : Nat} {t : TypeId} {y : Int} (h : Blk w g t #[.int .i64 y]) {j : Nat} {x : Int} (hj : [y][j]? = some x) : w.cell? ⟨g, 0 + j, none⟩ = some (.int .i64 x) := by
  match j, hj with
  | 0, hj =>
    have hj : y = x := by simpa using hj
    rw [h.cell, ← hj]
    rfl
set_option maxHeartbeats 1000000 in
theorem kkey_any {n : Nat} (hn : n < 900) (w : World) : Calls Tryd.prog 19 #[.int .i64 (n : Int)] w fun e w' => ∃ m, e = .returned (.agg ((keyD n).cs m)) ∧ (keyD n).at w' (fun b => w.heap.size ≤ b) m ∧ Below w.heap.size w w' := by
  refine calls_ev (vs := [.int .i64 (n : Int)]) 71 Tryd.func19 lk_body (by kernel_rfl) (by simp) fun a0 h0 => ?_
  unfold lkBody
  refine wp_seq (rg_wp (lk_r0 h0 fun a1 h1 => ?_))
  have hZ := Blk.new w 31 zeroC
  have hb := bl_alloc (Below.refl w.heap.size w) (.cells zeroC 31)
  have hs : (w.alloc (.cells zeroC 31)).heap.size = w.heap.size + 1 := by simp
  show Code.wp _ _ _ a1 (w.alloc (.cells zeroC 31))
  generalize w.alloc (.cells zeroC 31) = w1 at hZ hb hs ⊢
  refine wp_seq (rg_wp (lk_r1 (n := n) (C0 := fun u => u = w1) h1 rfl ((kpick_any (n := 900) (by unfold okInt; omega) (by omega) w1).mono fun e u hh => ⟨by rw [hh.1, pkN_nat hn], hh.2⟩) fun a2 w2 hx h2 => ?_))
  subst hx
  refine wp_seq (wp_seq (rg_wp (lk_r2 (r := n % 9) h2 rfl (fun w => rem_nat (b := 9) (by omega) (by omega) w) fun a3 h3 => wp_block ?_)))
  have fin : ∀ (d : Dt) (m : Dm) (u u' : World) (a' : Act) (l : List (Nat × Value)), keyD n = d → Sl 71 a' l → l.lookup 2 = some (.pointer (some ⟨w.heap.size, 0, none⟩)) → Below w.heap.size w u → Blk u w.heap.size 31 zeroC → u' = u.setCells w.heap.size 0 (d.cs m).toList → d.at u' (fun b => w.heap.size ≤ b) m →
      bodyPost Tryd.prog Tryd.f19 (fun e w' => ∃ m, e = .returned (.agg ((keyD n).cs m)) ∧ (keyD n).at w' (fun b => w.heap.size ≤ b) m ∧ Below w.heap.size w w') .ret a' u' := fun d m u u' a' l hd hf hl hbu hBu hu hat => by
    subst hu
    have hB := over_dat hBu rfl d m
    refine ret_c rfl hf hl (dat_whole hB) ?_
    rw [hd]
    exact ⟨m, rfl, hat, below_setCells _ _ _ hbu (Nat.le_refl _)⟩
  have sto : ∀ (u : World), Blk u w.heap.size 31 zeroC → ∀ (d : Dt) (m : Dm), (Instr.storeAt 31 (.pointer (some ⟨w.heap.size, 0, none⟩)) (.agg (d.cs m))).run Tryd.prog u = .ok () (u.setCells w.heap.size 0 (d.cs m).toList) := fun u hu d m => dat_store hu (by show 0 + 11 ≤ 11; omega)
  have hwl : Below w2.heap.size w2 w2 := Below.refl _ _
  have nm : n % 9 = 0 ∨ n % 9 = 1 ∨ n % 9 = 2 ∨ n % 9 = 3 ∨ n % 9 = 4 ∨ n % 9 = 5 ∨ n % 9 = 6 ∨ n % 9 = 7 ∨ n % 9 = 8 := by omega
  rcases nm with nm | nm | nm | nm | nm | nm | nm | nm | nm
  · refine wp_seq (rg_wp (lk_r3 (b9 := true) h3 rfl (decide_eq_true (by omega)) fun a0x0 h0x0 => wp_cond_true (h0x0.look 8 rfl) ?_))
    refine wp_seq (rg_wp (lk_r4 (C0 := fun u => Below w2.heap.size w2 u) h0x0 rfl rfl (kwhole_any _ _) (fun u hu => sto u (hZ.below hu hZ.lt) _ _) fun a5 u5 hu h5 => wp_ret ?_))
    repeat (first | with_reducible refine then_ret ?_ | with_reducible refine block_ret ?_)
    exact fin (wholeD n) m0 u5 _ a5 _ (key_tag nm (by omega)) h5 rfl (bl_trans hb hu) (hZ.below hu hZ.lt) rfl (pD_new _ _ _ _ _ _ _)
  · refine wp_seq (rg_wp (lk_r3 (b9 := false) h3 rfl (decide_eq_false (by omega)) fun a1x0 h1x0 => wp_cond_false (h1x0.look 8 rfl) ?_))
    refine wp_seq (rg_wp (lk_r5 (b13 := true) h1x0 rfl (decide_eq_true (by omega)) fun a1x1 h1x1 => wp_cond_true (h1x1.look 12 rfl) ?_))
    refine wp_seq (rg_wp (lk_r6 (s := chK n) (q := n / 256) (C0 := fun u => Below w2.heap.size w2 u) h1x1 rfl rfl (fun w => conv_byte n w) (fun w => quo_nat (b := 256) (by omega) (by omega) w) (fun w => conv_byte _ w) (conv_two _ _ _ _) ((ktext_any _ _).mono fun e u hh => ⟨hh.1, bl_trans (bl_alloc hwl _) hh.2⟩) (fun u hu => sto u (hZ.below hu hZ.lt) _ _) fun a5 u5 hu h5 => wp_ret ?_))
    repeat (first | with_reducible refine then_ret ?_ | with_reducible refine block_ret ?_)
    exact fin (textD (chK n)) m0 u5 _ a5 _ (key_tag nm (by omega)) h5 rfl (bl_trans hb hu) (hZ.below hu hZ.lt) rfl (pD_new _ _ _ _ _ _ _)
  · refine wp_seq (rg_wp (lk_r3 (b9 := false) h3 rfl (decide_eq_false (by omega)) fun a2x0 h2x0 => wp_cond_false (h2x0.look 8 rfl) ?_))
    refine wp_seq (rg_wp (lk_r5 (b13 := false) h2x0 rfl (decide_eq_false (by omega)) fun a2x1 h2x1 => wp_cond_false (h2x1.look 12 rfl) ?_))
    refine wp_seq (rg_wp (lk_r7 (b23 := true) h2x1 rfl (decide_eq_true (by omega)) fun a2x2 h2x2 => wp_cond_true (h2x2.look 22 rfl) ?_))
    refine wp_seq (rg_wp (lk_r8 h2x2 rfl rfl (fun w => conv_u n (by omega) w) (fun w => shl_forty hn w) (sto w2 hZ (kT 2 n) m0) fun a5 h5 => wp_ret ?_))
    repeat (first | with_reducible refine then_ret ?_ | with_reducible refine block_ret ?_)
    exact fin (kT 2 n) m0 w2 _ a5 _ (key_tag nm (by omega)) h5 rfl hb hZ rfl (pD_new _ _ _ _ _ _ _)
  · refine wp_seq (rg_wp (lk_r3 (b9 := false) h3 rfl (decide_eq_false (by omega)) fun a3x0 h3x0 => wp_cond_false (h3x0.look 8 rfl) ?_))
    refine wp_seq (rg_wp (lk_r5 (b13 := false) h3x0 rfl (decide_eq_false (by omega)) fun a3x1 h3x1 => wp_cond_false (h3x1.look 12 rfl) ?_))
    refine wp_seq (rg_wp (lk_r7 (b23 := false) h3x1 rfl (decide_eq_false (by omega)) fun a3x2 h3x2 => wp_cond_false (h3x2.look 22 rfl) ?_))
    refine wp_seq (rg_wp (lk_r9 (b29 := true) h3x2 rfl (decide_eq_true (by omega)) fun a3x3 h3x3 => wp_cond_true (h3x3.look 28 rfl) ?_))
    by_cases h9 : n < 9
    · refine wp_seq (wp_seq (rg_wp (lk_r10 (b31 := true) h3x3 rfl (decide_eq_true (by omega)) fun a5 h5 => wp_cond_true (h5.look 31 rfl) ?_)))
      refine wp_seq (rg_wp (lk_r11 h5 rfl (sto w2 hZ noD m0) fun a6 h6 => wp_ret ?_))
      repeat (first | with_reducible refine then_ret ?_ | with_reducible refine block_ret ?_)
      have e3 : n = 3 := by omega
      exact fin noD m0 w2 _ a6 _ (by subst e3; rfl) h6 rfl hb hZ rfl (pD_new _ _ _ _ _ _ _)
    · refine wp_seq (wp_seq (rg_wp (lk_r10 (b31 := false) h3x3 rfl (decide_eq_false (by omega)) fun a5 h5 => wpo (h5.look 31 rfl) ?_)))
      refine wp_seq (rg_wp (lk_r12 h5 rfl rfl (by omega) (sto w2 hZ (kT 3 n) m0) fun a6 h6 => wp_ret ?_))
      repeat (first | with_reducible refine then_ret ?_ | with_reducible refine block_ret ?_)
      exact fin (kT 3 n) m0 w2 _ a6 _ (key_tag nm (by omega)) h6 rfl hb hZ rfl (pD_new _ _ _ _ _ _ _)
  · refine wp_seq (rg_wp (lk_r3 (b9 := false) h3 rfl (decide_eq_false (by omega)) fun a4x0 h4x0 => wp_cond_false (h4x0.look 8 rfl) ?_))
    refine wp_seq (rg_wp (lk_r5 (b13 := false) h4x0 rfl (decide_eq_false (by omega)) fun a4x1 h4x1 => wp_cond_false (h4x1.look 12 rfl) ?_))
    refine wp_seq (rg_wp (lk_r7 (b23 := false) h4x1 rfl (decide_eq_false (by omega)) fun a4x2 h4x2 => wp_cond_false (h4x2.look 22 rfl) ?_))
    refine wp_seq (rg_wp (lk_r9 (b29 := false) h4x2 rfl (decide_eq_false (by omega)) fun a4x3 h4x3 => wp_cond_false (h4x3.look 28 rfl) ?_))
    refine wp_seq (rg_wp (lk_r13 (b37 := true) h4x3 rfl (decide_eq_true (by omega)) fun a4x4 h4x4 => wp_cond_true (h4x4.look 36 rfl) ?_))
    have hZ5 := hZ.alloc (.cells #[.int .i64 ((n % 30 : Nat) : Int)] 3)
    refine wp_seq (rg_wp (lk_r14 (q := n % 30) h4x4 rfl rfl (fun w => rem_nat (b := 30) (by omega) (by omega) w) (sto _ hZ5 (kT 4 n) ⟨some ⟨w2.heap.size, 0, none⟩, 1, none, 0⟩) fun a5 h5 => wp_ret ?_))
    repeat (first | with_reducible refine then_ret ?_ | with_reducible refine block_ret ?_)
    have hI := Blk.farL (show w2.heap.size ≠ w.heap.size by omega) ((kT 4 n).cs ⟨some ⟨w2.heap.size, 0, none⟩, 1, none, 0⟩).toList 0 _ (Blk.new w2 3 #[.int .i64 ((n % 30 : Nat) : Int)])
    refine fin (kT 4 n) ⟨some ⟨w2.heap.size, 0, none⟩, 1, none, 0⟩ _ _ a5 _ (key_tag nm (by omega)) h5 rfl (bl_alloc hb _) hZ5 rfl ⟨.inr ⟨w2.heap.size, 0, rfl, by omega, fun j x hj => ?_⟩, Nat.le_refl _, by show (1 : Nat) ≤ _; omega, .inl rfl, Nat.zero_le _, Nat.zero_le _⟩
    exact path_one hI hj
  · refine wp_seq (rg_wp (lk_r3 (b9 := false) h3 rfl (decide_eq_false (by omega)) fun a5x0 h5x0 => wp_cond_false (h5x0.look 8 rfl) ?_))
    refine wp_seq (rg_wp (lk_r5 (b13 := false) h5x0 rfl (decide_eq_false (by omega)) fun a5x1 h5x1 => wp_cond_false (h5x1.look 12 rfl) ?_))
    refine wp_seq (rg_wp (lk_r7 (b23 := false) h5x1 rfl (decide_eq_false (by omega)) fun a5x2 h5x2 => wp_cond_false (h5x2.look 22 rfl) ?_))
    refine wp_seq (rg_wp (lk_r9 (b29 := false) h5x2 rfl (decide_eq_false (by omega)) fun a5x3 h5x3 => wp_cond_false (h5x3.look 28 rfl) ?_))
    refine wp_seq (rg_wp (lk_r13 (b37 := false) h5x3 rfl (decide_eq_false (by omega)) fun a5x4 h5x4 => wp_cond_false (h5x4.look 36 rfl) ?_))
    refine wp_seq (rg_wp (lk_r15 (b45 := true) h5x4 rfl (decide_eq_true (by omega)) fun a5x5 h5x5 => wp_cond_true (h5x5.look 44 rfl) ?_))
    refine wp_seq (rg_wp (lk_r16 (C0 := fun u => Below w2.heap.size w2 u) h5x5 rfl rfl (kwhole_any _ _) (fun u hu => sto _ ((hZ.below hu hZ.lt).alloc _) (kT 5 n) ⟨none, 0, some ⟨u.heap.size, 0, none⟩, 2⟩) fun a5 u5 hu h5 => wp_ret ?_))
    repeat (first | with_reducible refine then_ret ?_ | with_reducible refine block_ret ?_)
    have hsz := hu.size
    have hI := Blk.farL (show u5.heap.size ≠ w.heap.size by omega) ((kT 5 n).cs ⟨none, 0, some ⟨u5.heap.size, 0, none⟩, 2⟩).toList 0 _ (Blk.new u5 31 ⟨((wholeD n).cs m0).toList ++ (noD.cs m0).toList⟩)
    have row : ∀ (d : Dt) (o : Nat), ((((wholeD n).cs m0).toList ++ (noD.cs m0).toList).drop o).take 11 = (d.cs m0).toList → CellsAt _ u5.heap.size o (d.cs m0) := fun d o e j v hv => range_of hI o 11 e j v (by simpa using hv)
    have z : (0 : Nat) ≤ 9223372036854775807 := by omega
    exact fin (kT 5 n) ⟨none, 0, some ⟨u5.heap.size, 0, none⟩, 2⟩ _ _ a5 _ (key_tag nm (by omega)) h5 rfl (bl_alloc (bl_trans hb hu) _) ((hZ.below hu hZ.lt).alloc _) rfl (items_at hI (by omega) _ _ 2 (by show (2 : Nat) ≤ 2; omega) (by omega) rfl ⟨⟨none, 0, none, 0, row (wholeD n) 0 rfl, .inl rfl, Nat.zero_le _, z, Nat.zero_le _, z, .inl rfl⟩, ⟨none, 0, none, 0, row noD 11 rfl, .inl rfl, Nat.zero_le _, z, Nat.zero_le _, z, .inl rfl⟩, trivial⟩)
  · refine wp_seq (rg_wp (lk_r3 (b9 := false) h3 rfl (decide_eq_false (by omega)) fun a6x0 h6x0 => wp_cond_false (h6x0.look 8 rfl) ?_))
    refine wp_seq (rg_wp (lk_r5 (b13 := false) h6x0 rfl (decide_eq_false (by omega)) fun a6x1 h6x1 => wp_cond_false (h6x1.look 12 rfl) ?_))
    refine wp_seq (rg_wp (lk_r7 (b23 := false) h6x1 rfl (decide_eq_false (by omega)) fun a6x2 h6x2 => wp_cond_false (h6x2.look 22 rfl) ?_))
    refine wp_seq (rg_wp (lk_r9 (b29 := false) h6x2 rfl (decide_eq_false (by omega)) fun a6x3 h6x3 => wp_cond_false (h6x3.look 28 rfl) ?_))
    refine wp_seq (rg_wp (lk_r13 (b37 := false) h6x3 rfl (decide_eq_false (by omega)) fun a6x4 h6x4 => wp_cond_false (h6x4.look 36 rfl) ?_))
    refine wp_seq (rg_wp (lk_r15 (b45 := false) h6x4 rfl (decide_eq_false (by omega)) fun a6x5 h6x5 => wp_cond_false (h6x5.look 44 rfl) ?_))
    refine wp_seq (rg_wp (lk_r17 (b52 := true) h6x5 rfl (decide_eq_true (by omega)) fun a6x6 h6x6 => wp_cond_true (h6x6.look 51 rfl) ?_))
    refine wp_seq (rg_wp (lk_r18 (C0 := fun u => Below w2.heap.size w2 u) h6x6 rfl rfl (kwhole_any _ _) (fun u hu => sto _ ((hZ.below hu hZ.lt).alloc _) (kT 6 n) ⟨none, 0, some ⟨u.heap.size, 0, none⟩, 1⟩) fun a5 u5 hu h5 => wp_ret ?_))
    repeat (first | with_reducible refine then_ret ?_ | with_reducible refine block_ret ?_)
    have hsz := hu.size
    have hI := Blk.farL (show u5.heap.size ≠ w.heap.size by omega) ((kT 6 n).cs ⟨none, 0, some ⟨u5.heap.size, 0, none⟩, 1⟩).toList 0 _ (Blk.new u5 31 ((wholeD n).cs m0))
    have row : ∀ (d : Dt) (o : Nat), ((((wholeD n).cs m0).toList).drop o).take 11 = (d.cs m0).toList → CellsAt _ u5.heap.size o (d.cs m0) := fun d o e j v hv => range_of hI o 11 e j v (by simpa using hv)
    have z : (0 : Nat) ≤ 9223372036854775807 := by omega
    exact fin (kT 6 n) ⟨none, 0, some ⟨u5.heap.size, 0, none⟩, 1⟩ _ _ a5 _ (key_tag nm (by omega)) h5 rfl (bl_alloc (bl_trans hb hu) _) ((hZ.below hu hZ.lt).alloc _) rfl (items_at hI (by omega) _ _ 1 (by show (1 : Nat) ≤ 1; omega) (by omega) rfl ⟨⟨none, 0, none, 0, row (wholeD n) 0 rfl, .inl rfl, Nat.zero_le _, z, Nat.zero_le _, z, .inl rfl⟩, trivial⟩)
  · refine wp_seq (rg_wp (lk_r3 (b9 := false) h3 rfl (decide_eq_false (by omega)) fun a7x0 h7x0 => wp_cond_false (h7x0.look 8 rfl) ?_))
    refine wp_seq (rg_wp (lk_r5 (b13 := false) h7x0 rfl (decide_eq_false (by omega)) fun a7x1 h7x1 => wp_cond_false (h7x1.look 12 rfl) ?_))
    refine wp_seq (rg_wp (lk_r7 (b23 := false) h7x1 rfl (decide_eq_false (by omega)) fun a7x2 h7x2 => wp_cond_false (h7x2.look 22 rfl) ?_))
    refine wp_seq (rg_wp (lk_r9 (b29 := false) h7x2 rfl (decide_eq_false (by omega)) fun a7x3 h7x3 => wp_cond_false (h7x3.look 28 rfl) ?_))
    refine wp_seq (rg_wp (lk_r13 (b37 := false) h7x3 rfl (decide_eq_false (by omega)) fun a7x4 h7x4 => wp_cond_false (h7x4.look 36 rfl) ?_))
    refine wp_seq (rg_wp (lk_r15 (b45 := false) h7x4 rfl (decide_eq_false (by omega)) fun a7x5 h7x5 => wp_cond_false (h7x5.look 44 rfl) ?_))
    refine wp_seq (rg_wp (lk_r17 (b52 := false) h7x5 rfl (decide_eq_false (by omega)) fun a7x6 h7x6 => wp_cond_false (h7x6.look 51 rfl) ?_))
    refine wp_seq (rg_wp (lk_r19 (b58 := true) h7x6 rfl (decide_eq_true (by omega)) fun a7x7 h7x7 => wp_cond_true (h7x7.look 57 rfl) ?_))
    refine wp_seq (rg_wp (lk_r20 (s := chK n) (q := n / 256) h7x7 rfl rfl (fun w => conv_byte n w) (fun w => quo_nat (b := 256) (by omega) (by omega) w) (fun w => conv_byte _ w) (conv_two _ _ _ _) (sto _ (hZ.alloc _) (kT 7 n) m0) fun a5 h5 => wp_ret ?_))
    repeat (first | with_reducible refine then_ret ?_ | with_reducible refine block_ret ?_)
    exact fin (kT 7 n) m0 _ _ a5 _ (key_tag nm (by omega)) h5 rfl (bl_alloc hb _) (hZ.alloc _) rfl (pD_new _ _ _ _ _ _ _)
  · refine wp_seq (rg_wp (lk_r3 (b9 := false) h3 rfl (decide_eq_false (by omega)) fun a8x0 h8x0 => wp_cond_false (h8x0.look 8 rfl) ?_))
    refine wp_seq (rg_wp (lk_r5 (b13 := false) h8x0 rfl (decide_eq_false (by omega)) fun a8x1 h8x1 => wp_cond_false (h8x1.look 12 rfl) ?_))
    refine wp_seq (rg_wp (lk_r7 (b23 := false) h8x1 rfl (decide_eq_false (by omega)) fun a8x2 h8x2 => wp_cond_false (h8x2.look 22 rfl) ?_))
    refine wp_seq (rg_wp (lk_r9 (b29 := false) h8x2 rfl (decide_eq_false (by omega)) fun a8x3 h8x3 => wp_cond_false (h8x3.look 28 rfl) ?_))
    refine wp_seq (rg_wp (lk_r13 (b37 := false) h8x3 rfl (decide_eq_false (by omega)) fun a8x4 h8x4 => wp_cond_false (h8x4.look 36 rfl) ?_))
    refine wp_seq (rg_wp (lk_r15 (b45 := false) h8x4 rfl (decide_eq_false (by omega)) fun a8x5 h8x5 => wp_cond_false (h8x5.look 44 rfl) ?_))
    refine wp_seq (rg_wp (lk_r17 (b52 := false) h8x5 rfl (decide_eq_false (by omega)) fun a8x6 h8x6 => wp_cond_false (h8x6.look 51 rfl) ?_))
    refine wp_seq (rg_wp (lk_r19 (b58 := false) h8x6 rfl (decide_eq_false (by omega)) fun a8x7 h8x7 => wpc_off (h8x7.look 57 rfl) (block_norm ?_)))
    show Code.wp _ (Code.seq (r_lk 21) .ret) _ a8x7 w2
    refine wp_seq (rg_wp (lk_r21 h8x7 rfl rfl (fun w => conv_u n (by omega) w) (fun w => shl_forty hn w) (sto w2 hZ (kT 8 n) m0) fun a5 h5 => wp_ret ?_))
    exact fin (kT 8 n) m0 w2 _ a5 _ (key_tag nm (by omega)) h5 rfl hb hZ rfl (pD_new _ _ _ _ _ _ _)
theorem kT_ok {t n : Nat} (hn : n < 900) : (kT t n).ok := by
  have z : okInt 0 := by unfold okInt; omega
  have zn : okInt (n : Int) := okI _ (by omega) (by omega)
  have l0 : (0 : Nat) ≤ 140737488351232 := by omega
  have hno : noD.ok := pD_ok z z (by omega) (by omega) l0 l0
  unfold kT
  split
  · exact whole_ok zn
  · exact text_ok (by show (2 : Nat) ≤ _; omega)
  · exact pD_ok (okI 3 (by omega) (by omega)) z (by omega) (by omega) (by show (5 : Nat) ≤ _; omega) l0
  · exact pD_ok (okI 2 (by omega) (by omega)) (okI _ (by omega) (by omega)) (by omega) (by omega) (by show (1 : Nat) ≤ _; omega) l0
  · refine ⟨⟨okI 9 (by omega) (by omega), z, by show (0 : Int) ≤ 0; omega, by show (0 : Int) ≤ 18446744073709551615; omega, zn, z, z, z, by show (1 : Nat) ≤ _; omega, l0, by show (1 : Nat) ≤ _; omega, fun j x hx => ?_⟩, trivial, by show (0 : Nat) ≤ _; omega⟩
    match j, hx with
    | 0, hx =>
      have hx : ((n % 30 : Nat) : Int) = x := by simpa using hx
      rw [← hx]
      exact okI _ (by omega) (by omega)
  · exact ⟨(pD_ok (kind := 8) (type := ⟨#[83]⟩) (n := 0) (f := 0) (s := ⟨#[]⟩) (okI 8 (by omega) (by omega)) z (by omega) (by omega) (by show (1 : Nat) ≤ _; omega) l0).h, ⟨(whole_ok zn).h, trivial, ⟨hno.h, trivial, trivial, by show (0 : Nat) ≤ _; omega⟩, by show (0 : Nat) ≤ _; omega⟩, by show (2 : Nat) ≤ _; omega⟩
  · exact ⟨(pD_ok (kind := 8) (type := ⟨#[83]⟩) (n := 0) (f := 0) (s := ⟨#[]⟩) (okI 8 (by omega) (by omega)) z (by omega) (by omega) (by show (1 : Nat) ≤ _; omega) l0).h, ⟨(whole_ok zn).h, trivial, trivial, by show (0 : Nat) ≤ _; omega⟩, by show (1 : Nat) ≤ _; omega⟩
  · exact pD_ok (okI 4 (by omega) (by omega)) z (by omega) (by omega) (by show (1 : Nat) ≤ _; omega) (by show (2 : Nat) ≤ _; omega)
  · exact pD_ok (okI 3 (by omega) (by omega)) z (by omega) (by omega) (by show (1 : Nat) ≤ _; omega) l0
  · exact hno
theorem key_ok {n : Nat} (hn : n < 900) : (keyD n).ok := kT_ok hn
end Go.Proofs.YtlhfickniegooaaDoor
