/-
  What a text's tokens are, in plain Lean over lists of bytes: words, names, runs, escapes, literals, numbers, signs, tokens; quoting. No program, no condition. Written by an AI agent.
-/
import Derived.Lib.Strings
namespace Go.Proofs.YtpggcmlddmckcaaDoor

def isDig (c : UInt8) : Bool := decide (48 ≤ c.toNat ∧ c.toNat ≤ 57)
def isLet (c : UInt8) : Bool := decide ((97 ≤ c.toNat ∧ c.toNat ≤ 122) ∨ (65 ≤ c.toNat ∧ c.toNat ≤ 90) ∨ c.toNat = 95)
/-- Of a run of digits, or of letters and digits. -/
def inRun (letters : Bool) (c : UInt8) : Bool := isDig c || (letters && isLet c)
def runL (letters : Bool) (l : List UInt8) : Nat := (l.takeWhile (inRun letters)).length
def wordsL : List (List UInt8) := [[97, 110, 121], [98, 114, 101, 97, 107], [99, 97, 115, 101], [99, 111, 110, 116, 105, 110, 117, 101], [100, 101, 102, 97, 117, 108, 116], [100, 101, 102, 101, 114], [101, 108, 115, 101], [102, 97, 108, 108, 116, 104, 114, 111, 117, 103, 104], [102, 97, 108, 115, 101], [102, 111, 114], [102, 117, 110, 99], [105, 102], [105, 110], [109, 97, 112], [110, 105, 108], [112, 114, 111, 116, 111, 99, 111, 108], [114, 101, 116, 117, 114, 110], [115, 116, 114, 117, 99, 116], [115, 119, 105, 116, 99, 104], [116, 114, 117, 101], [116, 121, 112, 101], [118, 97, 114]]
def signsL : List (List UInt8) := [[60, 60, 61], [62, 62, 61], [58, 61], [61, 61], [33, 61], [60, 61], [62, 61], [38, 38], [124, 124], [60, 60], [62, 62], [43, 61], [45, 61], [42, 61], [47, 61], [37, 61], [38, 61], [124, 61], [94, 61], [43, 43], [45, 45], [43], [45], [42], [47], [37], [38], [124], [94], [33], [60], [62], [61], [40], [41], [91], [93], [123], [125], [44], [46], [58]]
def endsL : List (List UInt8) := [[97, 110, 121], [98, 114, 101, 97, 107], [99, 111, 110, 116, 105, 110, 117, 101], [102, 97, 108, 108, 116, 104, 114, 111, 117, 103, 104], [102, 97, 108, 115, 101], [102, 117, 110, 99], [109, 97, 112], [110, 105, 108], [114, 101, 116, 117, 114, 110], [116, 114, 117, 101], [41], [93], [125], [43, 43], [45, 45]]
def topL : List UInt8 := [57, 50, 50, 51, 51, 55, 50, 48, 51, 54, 56, 53, 52, 55, 55, 53, 56, 48, 55]
def wordB (l : List UInt8) : Bool := wordsL.contains l
def nameB (l : List UInt8) : Bool := (match l with | [] => false | c :: _ => isLet c) && l.all (inRun true) && decide (l.length ≤ 40) && !wordB l
/-- A digit to the base sixteen; -1: none. -/
def hexV (c : UInt8) : Int :=
  if isDig c then (c.toNat : Int) - 48 else if 97 ≤ c.toNat ∧ c.toNat ≤ 102 then (c.toNat : Int) - 87 else if 65 ≤ c.toNat ∧ c.toNat ≤ 70 then (c.toNat : Int) - 55 else -1
/-- What stands behind a backslash: the byte, and how many bytes that are; 0: it is none. -/
def escL : List UInt8 → UInt8 × Nat
  | [] => (0, 0)
  | c :: r => if c = 110 then (10, 1) else if c = 116 then (9, 1) else if c = 92 ∨ c = 34 then (c, 1) else if c = 120 then
      (match r with
        | a :: b :: _ => if 0 ≤ hexV a ∧ 0 ≤ hexV b then (UInt8.ofNat (16 * hexV a + hexV b).toNat, 3) else (0, 0)
        | _ => (0, 0))
      else (0, 0)
/-- A code and a place. -/
structure Bad where
  code : Nat
  place : Nat
inductive Ans (A : Type) where
  | ok (a : A)
  | bad (b : Bad)
def Ans.map {A B : Type} (f : A → B) : Ans A → Ans B
  | .ok a => .ok (f a)
  | .bad b => .bad b
/-- A literal, behind its first sign: what it says, and the place behind it. -/
def litL (at0 i : Nat) (out : List UInt8) : List UInt8 → Ans (List UInt8 × Nat)
  | [] => .bad ⟨11, at0⟩
  | c :: r => if c = 34 then .ok (out, i + 1) else if c = 10 then .bad ⟨11, at0⟩ else if c = 92 then
      (if (escL r).2 = 0 then .bad ⟨11, i⟩ else litL at0 (i + 1 + (escL r).2) (out ++ [(escL r).1]) (r.drop (escL r).2))
      else litL at0 (i + 1) (out ++ [c]) r
termination_by l => l.length
decreasing_by
  · simp; omega
  · simp
structure Tok where
  kind : Nat
  text : List UInt8
  place : Nat
def numPart (rest : List UInt8) : Nat := match rest with
  | c :: r => if c = 46 then runL false r else 0
  | [] => 0
/-- A number: its token, and how many bytes it has; what is wrong with it. -/
def numT (at0 : Nat) (l : List UInt8) : Tok :=
  if 0 < numPart (l.drop (runL false l)) then ⟨5, l.take (runL false l + 1 + numPart (l.drop (runL false l))), at0⟩ else ⟨4, l.take (runL false l), at0⟩
def lessB : List UInt8 → List UInt8 → Bool
  | [], [] => false
  | [], _ :: _ => true
  | _ :: _, [] => false
  | a :: l, b :: m => if a.toNat < b.toNat then true else if b.toNat < a.toNat then false else lessB l m
def overB (whole : List UInt8) : Bool := decide (19 < whole.length) || (decide (whole.length = 19) && lessB topL whole)
def numBad (l : List UInt8) : Bool :=
  (if 0 < numPart (l.drop (runL false l)) then decide (15 < runL false l + numPart (l.drop (runL false l))) else overB (l.take (runL false l))) ||
    decide (0 < runL true (l.drop (numT 0 l).text.length)) || (decide (1 < runL false l) && (l.head? == some 48))
/-- The token that stands at a place (the text from there on is not empty), and how many bytes it has. -/
def oneL (at0 : Nat) : List UInt8 → Ans (Tok × Nat)
  | [] => .bad ⟨10, at0⟩
  | c :: r =>
    if c = 59 then .ok (⟨1, [], at0⟩, 1)
    else if c = 34 then (litL at0 (at0 + 1) [] r).map fun x => (⟨6, x.1, at0⟩, x.2 - at0)
    else if isDig c then (if numBad (c :: r) then .bad ⟨12, at0⟩ else .ok (numT at0 (c :: r), (numT at0 (c :: r)).text.length))
    else if isLet c then (if 40 < runL true (c :: r) then .bad ⟨13, at0⟩ else .ok (⟨if wordB ((c :: r).take (runL true (c :: r))) then 3 else 2, (c :: r).take (runL true (c :: r)), at0⟩, runL true (c :: r)))
    else match signsL.find? (fun x => x.isPrefixOf (c :: r)) with
      | some x => .ok (⟨7, x, at0⟩, x.length)
      | none => .bad ⟨10, at0⟩
/-- Is a line's end behind that token an end? -/
def endT (t : Tok) : Bool := decide (t.kind = 2 ∨ t.kind = 4 ∨ t.kind = 5 ∨ t.kind = 6) || (decide (t.kind = 3 ∨ t.kind = 7) && endsL.contains t.text)
/-- How many bytes a remark has. -/
def remL (l : List UInt8) : Nat := (l.takeWhile fun c => decide (c ≠ 10)).length
/-- The tokens from a place on; e: is a line's end there an end? -/
def scanL (at0 : Nat) (e : Bool) : List UInt8 → Ans (List Tok)
  | [] => .ok (if e then [⟨1, [], at0⟩] else [])
  | c :: r =>
    if c = 10 then (if e then (scanL (at0 + 1) false r).map (⟨1, [], at0⟩ :: ·) else scanL (at0 + 1) false r)
    else if c = 32 ∨ c = 9 then scanL (at0 + 1) e r
    else if c = 47 ∧ r.head? = some 47 then scanL (at0 + 1 + remL r) e (r.drop (remL r))
    else match oneL at0 (c :: r) with
      | .bad b => .bad b
      | .ok x => (scanL (at0 + 1 + (x.2 - 1)) (endT x.1) (r.drop (x.2 - 1))).map (x.1 :: ·)
termination_by l => l.length
decreasing_by all_goals (simp; try omega)
def scan (l : List UInt8) : Ans (List Tok) := if 60000 < l.length then .bad ⟨13, 0⟩ else scanL 0 false l
def hexD (n : Nat) : UInt8 := if n < 10 then UInt8.ofNat (48 + n) else UInt8.ofNat (87 + n)
def quoteC (c : UInt8) : List UInt8 :=
  if c = 34 ∨ c = 92 then [92, c] else if c = 10 then [92, 110] else if c = 9 then [92, 116]
  else if c.toNat < 32 ∨ 126 < c.toNat then [92, 120, hexD (c.toNat / 16), hexD (c.toNat % 16)] else [c]
def quote (l : List UInt8) : List UInt8 := 34 :: l.flatMap quoteC ++ [34]
def unquote : List UInt8 → Ans (List UInt8)
  | [] => .bad ⟨11, 0⟩
  | c :: r => if c = 34 then
      (match litL 0 1 [] r with
        | .bad b => .bad b
        | .ok x => if x.2 < r.length + 1 then .bad ⟨11, x.2⟩ else if 65536 < x.1.length then .bad ⟨13, 0⟩ else .ok x.1)
      else .bad ⟨11, 0⟩
theorem byte_all {p : UInt8 → Prop} [DecidablePred p] (h : ∀ n : Fin 256, p (UInt8.ofNat n.val)) (c : UInt8) : p c := by
  have := h ⟨c.toNat, c.toNat_lt⟩
  simpa using this
theorem take_all {p : UInt8 → Bool} : ∀ l : List UInt8, l.take (l.takeWhile p).length = l.takeWhile p
  | [] => rfl
  | c :: l => by
    rw [List.takeWhile_cons]
    split
    · rw [List.length_cons, List.take_succ_cons, take_all l]
    · rfl
theorem while_while {p : UInt8 → Bool} : ∀ l : List UInt8, (l.takeWhile p).takeWhile p = l.takeWhile p
  | [] => rfl
  | c :: l => by
    by_cases h : p c = true
    · rw [List.takeWhile_cons_of_pos h, List.takeWhile_cons_of_pos h, while_while l]
    · rw [List.takeWhile_cons_of_neg h]; rfl
end Go.Proofs.YtpggcmlddmckcaaDoor
