/-
  Contract of value.hash. Written by an AI agent.
-/
import Derived.Test.YthdmmhiifkebeaaDoorVal6
import Derived.Test.YthdmmhiifkebeaaDoorVal3
namespace Go.Proofs.YthdmmhiifkebeaaDoor
open Go.RowKit Go.Sort

def mixI (a b : Int) : Int := IntKind.u64.wrap (bits .xor .u64 a b * 1099511628211)
theorem mix_any (a b : Int) (w : World) : Calls Tryd.prog 103 #[.int .u64 a, .int .u64 b] w fun e w' => e = .returned (.int .u64 (mixI a b)) ∧ w = w' := mixed_any a b w
theorem mix_below (a b : Int) (w : World) : Calls Tryd.prog 103 #[.int .u64 a, .int .u64 b] w fun e w' => e = .returned (.int .u64 (mixI a b)) ∧ Below w.heap.size w w' := (mix_any a b w).mono fun _e _w' ⟨h1, h2⟩ => ⟨h1, h2 ▸ Below.refl _ _⟩
def toU64 (n : Int) : Int := IntKind.u64.wrap n
def mixL (l : List Int) (a : Int) : Int := match l with | [] => a | x :: r => mixL r (mixI a (toU64 x))
def mixB (l : List UInt8) (a : Int) : Int := match l with | [] => a | x :: r => mixB r (mixI a (x.toNat : Int))
def basis : Int := 14695981039346656037
def bytesH (h : Hd) : List UInt8 := h.type.data.toList ++ 32 :: h.s.data.toList
def hash1 (h : Hd) : Int := mixB (bytesH h) (mixI basis (toU64 h.kind))
def hash2 (h : Hd) : Int := if (!feqB h.f.toNat 0 && !nanB h.f.toNat) = true then mixI (hash1 h) h.f else hash1 h
def hash3 (h : Hd) : Int := mixL h.path (mixI (mixI (hash2 h) (toU64 h.n)) (toU64 h.obj))
def hashF : Fo → Int → Int
  | .nil, a => a
  | .cons h k r, a => hashF r (mixI a (hashF k (hash3 h)))
def hashD (h : Hd) (k : Fo) : Int := hashF k (hash3 h)

def HashC (h : Hd) (k : Fo) : Prop := ∀ (w : World) (S : Nat → Prop) (pa : Option Addr) (pc : Nat) (ia : Option Addr) (ic : Nat), DatAt w S h k pa pc ia ic →
  Calls Tryd.prog 67 #[.agg (h.cells pa pc ia k.len ic)] w fun e w' => e = .returned (.int .u64 (hashD h k)) ∧ Below w.heap.size w w'

theorem drop_mixB (l : List UInt8) (j : Nat) (b : UInt8) (a : Int) (h : l[j]? = some b) : mixB (l.drop j) a = mixB (l.drop (j + 1)) (mixI a (b.toNat : Int)) := by
  have hl : j < l.length := (List.getElem?_eq_some_iff.1 h).1
  rw [List.drop_eq_getElem_cons hl, (List.getElem?_eq_some_iff.1 h).2]; rfl
theorem drop_mixL (l : List Int) (j : Nat) (b : Int) (a : Int) (h : l[j]? = some b) : mixL (l.drop j) a = mixL (l.drop (j + 1)) (mixI a (toU64 b)) := by
  have hl : j < l.length := (List.getElem?_eq_some_iff.1 h).1
  rw [List.drop_eq_getElem_cons hl, (List.getElem?_eq_some_iff.1 h).2]; rfl

set_option maxRecDepth 100000 in
set_option maxHeartbeats 4000000 in
theorem hash_one (h : Hd) (k : Fo) (ho : h.ok) (_hk : k.ok) (hkl : k.len ≤ 1034834473170) (ih : ∀ i a b, k.get i = some (a, b) → HashC a b) : HashC h k := by
  intro w S pa pc ia ic hd
  unfold Hd.cells
  have hts := ho.type
  have hss := ho.s
  go_enter Tryd.func67, Tryd.ntmps67
  go_upto_region 0 with fail
  go_cut [0, 1] (fun _ t1 wx => t1 = .pointer (some ⟨w.heap.size, 0, none⟩) ∧ Blk wx w.heap.size 28 (h.cells pa pc ia k.len ic) ∧ Below w.heap.size w wx)
  case first =>
    go_wp2_with fail
    go_meet
    case rel => exact ⟨rfl, Blk.new _ _ _, by ((repeat' (first | exact Below.refl _ _ | assumption | (refine bl_alloc ?_ _) | (refine Below.drew ?_) | (refine below_drewN ?_ _) | (refine Below.setCell ?_ ?_ _) | (refine bl_trans ?_ (by assumption)))) <;> first | omega | (simp; done) | (simp; omega))⟩
  case rest =>
  obtain ⟨rfl, hA, hbw⟩ := hcut
  obtain ⟨w0, rfl⟩ : ∃ w0 : World, w0 = wc := ⟨_, rfl⟩
  obtain ⟨c0, c1, c2, c3, c4, c5, c6, c7, c8, c9, c10⟩ := (CellsAt.of_blk hA).box
  go_wp2_with fail
  refine (mix_any _ _ _).mono ?_
  rintro e w1 ⟨rfl, rfl⟩
  obtain ⟨C, wb, hcv, hbb, hcell⟩ := bytes_of w0 (h.type ++ ⟨#[32]⟩ ++ h.s) w0.heap.size rfl
  have hbl : (h.type ++ ⟨#[32]⟩ ++ h.s).data.toList = bytesH h := by simp [bytesH]
  rw [hbl] at hcell
  have hbw2 : Below w.heap.size w wb := bl_trans hbw hbb
  have hAb := hA.below hbb hA.lt
  have hdb := hd.below hbw2 (fun b _ h => h)
  have hbn : (bytesH h).length = h.type.size + 1 + h.s.size := by simp [bytesH]; omega
  have HBN := Lib.hid hbn
  clear hbn hbl
  have hlen1 : h.type.size + 1 + h.s.size ≤ 9223372036854775807 := by omega
  go_upto_region 3 with fail
  clear c0 c1 c2 c3 c4 c5 c6 c7 c8 c9 c10 hcv hbb hA
  go_loopg [3, 23] (h.type.size + 1 + h.s.size) (fun g a i wr => ∃ (j : Nat) (x : Int), j ≤ h.type.size + 1 + h.s.size ∧ a = .int .u64 x ∧ i = .int .i64 j ∧ g = h.type.size + 1 + h.s.size - j ∧ wb = wr ∧ Hid (hash1 h = mixB ((bytesH h).drop j) x))
  case atStart => exact ⟨0, _, by omega, rfl, rfl, by omega, rfl, by unfold Hid hash1 toU64 basis; simp⟩
  case round =>
  obtain ⟨j, x, hj, rfl, rfl, rfl, rfl, HN⟩ := hrel
  by_cases hlt : j < h.type.size + 1 + h.s.size
  · obtain ⟨b, hb⟩ : ∃ b, (bytesH h)[j]? = some b := ⟨_, List.getElem?_eq_getElem (by rw [HBN.out]; exact hlt)⟩
    have hc := hcell j b hb
    have HX := Lib.hid hb
    clear hcell hb
    have hx0 : (0 : Int) ≤ (b.toNat : Int) := by omega
    have hx1 : (b.toNat : Int) ≤ 255 := by have := b.toNat_lt; omega
    go_wp2_with (go_at_call 103; refine (mix_any _ _ _).mono ?_; rintro e w1 ⟨rfl, rfl⟩)
    go_roundg (h.type.size + 1 + h.s.size - (j + 1))
    case measure => omega
    case rel => exact ⟨j + 1, _, by omega, rfl, by go_num, rfl, rfl, by unfold Hid; rw [HN.out, drop_mixB _ _ _ _ HX.out]⟩
  have hjn : j = h.type.size + 1 + h.s.size := by omega
  have hx : x = hash1 h := by rw [HN.out, List.drop_of_length_le (by rw [HBN.out]; omega)]; rfl
  subst hx
  clear hcell hlt HN
  have hle2 : ((h.type.size : Int) + 1 + (h.s.size : Int)) ≤ (j : Int) := by omega
  obtain ⟨c0, c1, c2, c3, c4, c5, c6, c7, c8, c9, c10⟩ := (CellsAt.of_blk hAb).box
  have hff := fromBits h.f
  have hfs := feq_self h.f.toNat
  have hfe := feq h.f.toNat h.f.toNat
  have hfn := fne h.f.toNat 0
  rw [hfs] at hfe
  clear hfs hjn
  go_upto_region 8 with fail
  go_cut [41] (fun t wx => t = .bool (!feqB h.f.toNat 0 && !nanB h.f.toNat) ∧ wb = wx)
  case first =>
    cases e1 : feqB h.f.toNat 0 <;> rw [e1] at hfn <;> cases e2 : nanB h.f.toNat <;> rw [e2] at hfe
    all_goals go_wp2_with fail
    all_goals go_meet
    all_goals (refine ⟨?_, rfl⟩; simp [e1, e2])
  case rest =>
  obtain ⟨rfl, rfl⟩ := hcut
  go_upto_if 41 with fail
  go_cut [3] (fun t wx => t = .int .u64 (hash2 h) ∧ wb = wx)
  case first =>
    cases e0 : (!feqB h.f.toNat 0 && !nanB h.f.toNat)
    · go_wp2_with fail
      go_meet
      case rel => exact ⟨by unfold hash2; rw [e0, if_neg (by simp)], rfl⟩
    · go_wp2_with (go_at_call 103; refine (mix_any _ _ _).mono ?_; rintro e w1 ⟨rfl, rfl⟩)
      go_meet
      case rel => exact ⟨by unfold hash2; rw [e0, if_pos rfl], rfl⟩
  case rest =>
  obtain ⟨rfl, rfl⟩ := hcut
  go_upto_region 10 with fail
  go_cut [3] (fun t wx => t = .int .u64 (mixI (mixI (hash2 h) (toU64 h.n)) (toU64 h.obj)) ∧ Below wb.heap.size wb wx)
  case first =>
    clear c0 c1 c2 c3 c4 c5 c6 c7 c8 c9 c10
    obtain ⟨c0, c1, c2, c3, c4, c5, c6, c7, c8, c9, c10⟩ := (CellsAt.of_blk hAb).boxrg
    refine wp_region_below (by kernel_rfl) (by kernel_rfl) ?_
    repeat (quiet_step ((go_at_call 103; exact Calls.regrown_of (mix_below _ _ _))))
    refine wpQuiet_nil ?_
    intro w2 hb2
    go_wp2_with fail
    go_meet
    case rel => exact ⟨rfl, hb2⟩
  case rest =>
  obtain ⟨rfl, hbq⟩ := hcut
  obtain ⟨w2, rfl⟩ : ∃ w2 : World, w2 = wc := ⟨_, rfl⟩
  have hb3 : Below w.heap.size w w2 := bl_trans hbw2 hbq
  have hA2 := hAb.below hbq hAb.lt
  have hd2 := hd.below hb3 (fun b _ h => h)
  clear c0 c1 c2 c3 c4 c5 c6 c7 c8 c9 c10 hff hfe hfn hAb hdb hbw2 hbq hle2 HBN hlen1
  obtain ⟨c0, c1, c2, c3, c4, c5, c6, c7, c8, c9, c10⟩ := (CellsAt.of_blk hA2).box
  have hpl := ho.path
  go_upto_region 12 with fail
  go_loopg [3, 60] h.path.length (fun g a i wr => ∃ (j : Nat) (x : Int), j ≤ h.path.length ∧ a = .int .u64 x ∧ i = .int .i64 j ∧ g = h.path.length - j ∧ w2 = wr ∧ Hid (hash3 h = mixL (h.path.drop j) x))
  case atStart => exact ⟨0, _, by omega, rfl, rfl, by omega, rfl, rfl⟩
  case round =>
  obtain ⟨j, x, hj, rfl, rfl, rfl, rfl, HN⟩ := hrel
  by_cases hlt : j < h.path.length
  · obtain ⟨b, hb⟩ : ∃ b, h.path[j]? = some b := ⟨_, List.getElem?_eq_getElem hlt⟩
    obtain ⟨pb, po, rfl, _, hcc⟩ := hd2.path.get hb
    have HDr := Lib.hid (drop_mixL h.path j b x hb)
    have hj1 : (j : Int) < (h.path.length : Int) := by omega
    clear hb
    go_wp2_with (go_at_call 103; refine (mix_any _ _ _).mono ?_; rintro e w1 ⟨rfl, rfl⟩)
    go_roundg (h.path.length - (j + 1))
    case measure => omega
    case rel => exact ⟨j + 1, _, by omega, rfl, by go_num, rfl, rfl, by unfold Hid; rw [HN.out, HDr.out]; rfl⟩
  have hjn2 : (h.path.length : Int) ≤ (j : Int) := by omega
  have hx : x = hash3 h := by rw [HN.out, List.drop_of_length_le (by omega)]; rfl
  subst hx
  clear HN hlt
  go_upto_region 16 with fail
  go_cut [61, 69, 70, 71, 72] (fun _ _ t70 t71 t72 wx => t70 = .slice ia k.len ic ∧ t71 = .int .i64 k.len ∧ t72 = .int .i64 0 ∧ w2 = wx)
  case first =>
    go_wp2_with fail
    go_meet
    case rel => exact ⟨rfl, rfl, rfl, rfl⟩
  case rest =>
  obtain ⟨rfl, rfl, rfl, rfl⟩ := hcut
  go_upto_region 17 with fail
  clear hjn2 c0 c1 c2 c3 c4 c5 c6 c7 c8 c9 c10
  go_loopg [3, 72] k.len (fun g a i wr => ∃ (j : Nat) (x : Int), j ≤ k.len ∧ a = .int .u64 x ∧ i = .int .i64 j ∧ g = k.len - j ∧ Below w.heap.size w wr ∧ Hid (hashD h k = hashF (k.drop j) x))
  case atStart => exact ⟨0, _, by omega, rfl, rfl, by omega, hb3, by unfold Hid hashD; simp⟩
  case round =>
  obtain ⟨j, x, hj, rfl, rfl, rfl, hbr, HN⟩ := hrel
  by_cases hlt : j < k.len
  · obtain ⟨h', k', hget⟩ := Fo.get_lt k j hlt
    have hks : SlAt _ S ia k := (hd.below hbr (fun b _ h => h)).kids
    obtain ⟨b, o, rfl, hSb, pa', pc', ia', ic', hcs, hda⟩ := hks.get hget
    obtain ⟨d0, d1, d2, d3, d4, d5, d6, d7, d8, d9, d10⟩ := hcs.eleven
    have hih := ih j h' k' hget (wr.alloc (.cells (h'.cells pa' pc' ia' k'.len ic') 28)) S pa' pc' ia' ic' (hda.keep (fun b _ h => Below.heap_alloc _ _ _ h) (fun _ h _ => h))
    unfold Hd.cells at hih
    have HI := Lib.hid hih
    have HDr := Lib.hid (Fo.drop_get k j h' k' hget)
    clear hih hget hcs hda hks hpl
    go_wp2_with fail
    refine HI.out.mono ?_
    rintro e w4 ⟨rfl, hb4⟩
    have hbr4 : Below w.heap.size w w4 := bl_trans (bl_alloc hbr _) hb4
    clear HI d0 d1 d2 d3 d4 d5 d6 d7 d8 d9 d10 hb4
    go_wp2_with (go_at_call 103; refine (mix_any _ _ _).mono ?_; rintro e w1 ⟨rfl, rfl⟩)
    go_roundg (k.len - (j + 1))
    case measure => omega
    case rel => exact ⟨j + 1, _, by omega, rfl, by go_num, rfl, hbr4, by unfold Hid; rw [HN.out, HDr.out]; rfl⟩
  have hjk : j = k.len := by omega
  subst hjk
  have hx : hashD h k = x := by rw [HN.out, Fo.drop_len k _ (Nat.le_refl _)]; rfl
  clear HN hlt
  go_wp2_with fail
  go_ret
  rw [hx]
  exact ⟨rfl, hbr⟩

theorem hash_all : ∀ (f : Fo), f.ok → ∀ i h k, f.get i = some (h, k) → HashC h k
  | .nil, _, i, h, k, e => by simp [Fo.get] at e
  | .cons h' k' r, o, 0, h, k, e => by
    simp only [Fo.get, Option.some.injEq, Prod.mk.injEq] at e
    obtain ⟨rfl, rfl⟩ := e
    exact hash_one _ _ o.1 o.2.1 o.2.2.2 (hash_all k' o.2.1)
  | .cons h' k' r, o, i + 1, h, k, e => hash_all r o.2.2.1 i h k e
theorem hash_any (h : Hd) (k : Fo) (ho : h.ok) (hk : k.ok) (hl : k.len ≤ 1034834473170) : HashC h k := hash_one h k ho hk hl (hash_all k hk)
end Go.Proofs.YthdmmhiifkebeaaDoor
