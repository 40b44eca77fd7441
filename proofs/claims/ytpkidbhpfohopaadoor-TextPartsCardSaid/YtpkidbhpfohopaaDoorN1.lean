/- Layer 24: plain words of texts; contracts of the reference's words and split, and of Same. No condition. -/
import Derived.Test.YtpkidbhpfohopaaDoorGEd
noncomputable section
namespace Go.Proofs.YtpkidbhpfohopaaDoor
open Go.RowKit
set_option linter.unusedVariables false
set_option linter.unusedSimpArgs false
abbrev AI (n : Int) : AV := .int .i64 n
abbrev AB (b : Bool) : AV := .bool b
abbrev p0 : Path := ⟨0, 0, 0, none⟩
theorem wrap_i64 (n : Int) : IntKind.i64.wrap n = wrap64 n := by
  simp only [IntKind.wrap, IntKind.bits, IntKind.signed, wrap64]
  simp
  omega
theorem wrap_id {n : Int} (h1 : -9223372036854775808 ≤ n) (h2 : n < 9223372036854775808) : IntKind.i64.wrap n = n := by
  rw [wrap_i64]
  unfold wrap64
  omega
theorem wrap_succ {i : Nat} (h : i < 9223372036854775807) : IntKind.i64.wrap (↑i + 1) = ↑(i + 1) := by
  rw [wrap_i64]
  unfold wrap64
  omega
/-! ### a string's bytes -/
abbrev bl (s : ByteArray) : List UInt8 := s.data.toList
def ofB (l : List UInt8) : ByteArray := ⟨l.toArray⟩
theorem ofB_bl (s : ByteArray) : ofB (bl s) = s := rfl
theorem bl_ofB (l : List UInt8) : bl (ofB l) = l := rfl
theorem bl_len (s : ByteArray) : (bl s).length = s.size := by rw [Array.length_toList]; rfl
theorem bl_inj {s t : ByteArray} (h : bl s = bl t) : s = t := by
  rw [← ofB_bl s, ← ofB_bl t]
  exact congrArg ofB h
theorem bl_ext (s : ByteArray) (l h : Nat) : bl (s.extract l h) = ((bl s).take h).drop l := by
  show (s.extract l h).data.toList = _
  rw [ByteArray.data_extract, Array.toList_extract, List.extract_eq_take_drop, List.drop_take]
theorem ext_eq (s : ByteArray) (l h : Nat) : s.extract l h = ofB (((bl s).take h).drop l) := bl_inj (bl_ext s l h)
theorem bl_app (s t : ByteArray) : bl (s ++ t) = bl s ++ bl t := by
  show (s ++ t).data.toList = _
  rw [ByteArray.data_append, Array.toList_append]
theorem byteU_eq (s : ByteArray) (i : Nat) : byteU s i = (((bl s).getD i 0).toNat : Int) := by
  unfold byteU bytesU
  rw [List.getD_eq_getElem?_getD, List.getElem?_map, List.getD_eq_getElem?_getD]
  cases (bl s)[i]? <;> rfl
/-! ### parts between bytes of one kind -/
def spt (c : UInt8) : List UInt8 → List (List UInt8)
  | [] => [[]]
  | x :: r => if x = c then [] :: spt c r else match spt c r with
    | h :: t => (x :: h) :: t
    | [] => [[x]]
theorem spt_ne (c : UInt8) : ∀ l, spt c l ≠ []
  | [] => by simp [spt]
  | x :: r => by
    rw [spt]
    split
    · simp
    · split <;> simp
theorem spt_cut {c : UInt8} : ∀ (l r : List UInt8), (∀ x ∈ l, x ≠ c) → spt c (l ++ c :: r) = l :: spt c r
  | [], r, _ => by rw [List.nil_append, spt, if_pos rfl]
  | x :: l, r, h => by
    rw [List.cons_append, spt, if_neg (h x (List.mem_cons_self ..)), spt_cut l r fun y hy => h y (List.mem_cons_of_mem _ hy)]
theorem spt_end {c : UInt8} : ∀ (l : List UInt8), (∀ x ∈ l, x ≠ c) → spt c l = [l]
  | [], _ => rfl
  | x :: l, h => by
    rw [spt, if_neg (h x (List.mem_cons_self ..)), spt_end l fun y hy => h y (List.mem_cons_of_mem _ hy)]
theorem spt_len (c : UInt8) : ∀ l : List UInt8, (spt c l).length ≤ l.length + 1
  | [] => Nat.le_refl _
  | x :: r => by
    have ih := spt_len c r
    rw [spt]
    split
    · simp; omega
    · split
      · rename_i h t e
        rw [e] at ih
        simp at ih ⊢
        omega
      · simp
def splB (c : UInt8) (s : ByteArray) : List ByteArray := (spt c (bl s)).map ofB
def slS (H : Heap) : AV → Option (List ByteArray)
  | .vsl .str xs => some xs
  | .nils => some []
  | .slc id => match H.get id with
    | some (.seq _ _ .str xs) => some xs
    | _ => none
  | _ => none
structure SSp (s : ByteArray) (c : UInt8) (out : List ByteArray) (fr i : Nat) : Prop where
  le : fr ≤ i
  le2 : i ≤ s.size
  len : out.length ≤ fr
  no : ∀ x ∈ ((bl s).take i).drop fr, x ≠ c
  eq : splB c s = out ++ (spt c ((bl s).drop fr)).map ofB
theorem ssp_0 (s : ByteArray) (c : UInt8) : SSp s c [] 0 0 := ⟨Nat.le_refl _, Nat.zero_le _, Nat.le_refl _, fun x hx => by simp at hx, by simp [splB]⟩
theorem ssp_n {s : ByteArray} {c : UInt8} {out : List ByteArray} {fr i : Nat} (h : SSp s c out fr i) (hi : i < s.size) (hn : ¬ (bl s).getD i 0 = c) : SSp s c out fr (i + 1) := by
  have hi' : i < (bl s).length := by rw [bl_len]; exact hi
  refine ⟨Nat.le_succ_of_le h.le, hi, h.len, fun x hx => ?_, h.eq⟩
  rw [List.take_add_one, List.getElem?_eq_getElem hi', List.drop_append_of_le_length (by rw [List.length_take, Nat.min_eq_left (Nat.le_of_lt hi')]; exact h.le)] at hx
  rcases List.mem_append.1 hx with hx | hx
  · exact h.no x hx
  · simp at hx
    subst hx
    rw [List.getD_eq_getElem?_getD, List.getElem?_eq_getElem hi'] at hn
    exact hn
theorem ssp_c {s : ByteArray} {c : UInt8} {out : List ByteArray} {fr i : Nat} (h : SSp s c out fr i) (hi : i < s.size) (hn : (bl s).getD i 0 = c) : SSp s c (out ++ [s.extract fr i]) (i + 1) (i + 1) := by
  have hi' : i < (bl s).length := by rw [bl_len]; exact hi
  have hg : (bl s)[i] = c := by rw [List.getD_eq_getElem?_getD, List.getElem?_eq_getElem hi'] at hn; exact hn
  refine ⟨Nat.le_refl _, hi, by have := h.len; have := h.le; simp; omega, fun x hx => ?_, ?_⟩
  · rw [List.drop_of_length_le (by rw [List.length_take]; omega)] at hx
    simp at hx
  · have e1 : (bl s).drop fr = ((bl s).take i).drop fr ++ c :: (bl s).drop (i + 1) := by
      rw [← hg, ← List.drop_eq_getElem_cons hi', List.drop_take]
      rw [show (bl s).drop i = ((bl s).drop fr).drop (i - fr) from by rw [List.drop_drop]; congr 1; have := h.le; omega, List.take_append_drop]
    rw [h.eq, e1, spt_cut _ _ h.no, List.map_cons, ext_eq]
    simp
theorem ssp_e {s : ByteArray} {c : UInt8} {out : List ByteArray} {fr i : Nat} (h : SSp s c out fr i) (hi : s.size ≤ i) : splB c s = out ++ [s.extract fr s.size] := by
  have hl := bl_len s
  have e0 : (bl s).take i = bl s := List.take_of_length_le (by omega)
  have h1 := h.no
  rw [e0] at h1
  rw [h.eq, spt_end _ h1, ext_eq, List.take_of_length_le (by omega)]
  rfl
def cRSplit : Con where
  X := ByteArray × UInt8
  args := fun ⟨s, c⟩ => [.str s, .int .u8 c.toNat]
  heap := fun _ => hp0
  pre := fun ⟨s, c⟩ => s.size ≤ 100000
  res := fun _ => .slc 0
  heap' := fun ⟨s, c⟩ => ⟨1, [(0, some (.seq false 9 .str (splB c s)))]⟩
  pure := false
  find := fun args H => match args with
    | [.str s, .int _ n] => some (s, UInt8.ofNat n.toNat)
    | _ => none
structure SpD where
  i : Nat
  fr : Nat
  out : List ByteArray
def spN (s : ByteArray) (c : UInt8) (d : SpD) : SpD := if (bl s).getD d.i 0 = c then ⟨d.i + 1, d.i + 1, d.out ++ [s.extract d.fr d.i]⟩ else ⟨d.i + 1, d.fr, d.out⟩
theorem byte_t {s : ByteArray} {c : UInt8} {i : Nat} (h : (byteU s i == (c.toNat : Int)) = true) : (bl s).getD i 0 = c := by
  have h := eq_of_beq h
  rw [byteU_eq] at h
  exact UInt8.toNat_inj.1 (by omega)
theorem byte_f {s : ByteArray} {c : UInt8} {i : Nat} (h : (byteU s i == (c.toNat : Int)) = false) : ¬ (bl s).getD i 0 = c := fun e => by
  rw [byteU_eq, e, beq_self_eq_true] at h
  cases h
theorem spN_t {s : ByteArray} {c : UInt8} {i fr : Nat} {out : List ByteArray} (h : (byteU s i == (c.toNat : Int)) = true) : spN s c ⟨i, fr, out⟩ = ⟨i + 1, i + 1, out ++ [s.extract fr i]⟩ := if_pos (byte_t h)
theorem spN_f {s : ByteArray} {c : UInt8} {i fr : Nat} {out : List ByteArray} (h : (byteU s i == (c.toNat : Int)) = false) : spN s c ⟨i, fr, out⟩ = ⟨i + 1, fr, out⟩ := if_neg (byte_f h)
theorem spN_ok {s : ByteArray} {c : UInt8} {out : List ByteArray} {fr i : Nat} (h : SSp s c out fr i) (hi : i < s.size) : SSp s c (spN s c ⟨i, fr, out⟩).out (spN s c ⟨i, fr, out⟩).fr (spN s c ⟨i, fr, out⟩).i := by
  unfold spN
  by_cases e : (bl s).getD i 0 = c
  · rw [if_pos e]; exact ssp_c h hi e
  · rw [if_neg e]; exact ssp_n h hi e
theorem spN_i (s : ByteArray) (c : UInt8) (d : SpD) : (spN s c d).i = d.i + 1 := by unfold spN; split <;> rfl
set_option maxRecDepth 100000 in
set_option maxHeartbeats 4000000 in
theorem cRSplit_ok : cRSplit.Ok Tryd.prog 21 := by
  refine fun_ok (env_ok Cons.nil) mixedP Tryd.func21 (by decide) rfl cRSplit [] (fun _ => rfl) (fun h => by cases h) (fun _ => Nat.le_of_ble_eq_true rfl) ?_
  rintro ⟨s, c⟩ hp ha hb
  replace hp : s.size ≤ 100000 := hp
  clear ha hb
  all_goals (repeat' (first
    | with_reducible refine iTr ?_
    | with_reducible refine iB ?_
    | intro _
    | exact True.intro
    | (show _ ∧ _
       first
        | refine aTT ?_
        | refine aTB ?_
        | refine aT ?_
        | refine aB ?_
        | refine a11 ?_
        | refine a01 ?_
        | refine a00 ?_
        | refine a10 ?_
        | (with_reducible refine And.intro rfl ?_)
        | refine And.intro ?_ ?_)
    | with_reducible exact rfl
    | with_reducible exact HEq.rfl
    | (show (_ : Option Nat) = _; exact rfl)
    | (show (_ : Option Blk) = _; exact rfl)
    | (with_reducible show (nodupB _ && _ && _ && _ && _) = true; exact (Eq.refl true))
    | (with_reducible show (nodupB _ && _ && _ && _) = true; exact (Eq.refl true))
    | (with_reducible show (nodupB _ && _ && _) = true; exact (Eq.refl true))
    | (with_reducible show freeOk _ _ = true; exact (Eq.refl true))
    | (with_reducible show wrOk _ _ _ _ _ = true; exact (Eq.refl true))
    | (show (_ : AV) = _; exact rfl)
    | (show (_ : ByteArray) = _; with_reducible exact rfl)
    | (show (_ : Heap) = _; exact rfl)
    | (with_reducible show (_ || !_) = true; exact (Eq.refl true))
    | (with_reducible show Nat.beq _ _ = true; exact (Eq.refl true))))
  all_goals (first | (show (_ : Int) = _) | (show (_ : Bool) = _) | (show (_ : ByteArray) = _) | (show HEq _ _) | (show ∃ _ : LInv, _) | skip)
  all_goals (try (with_reducible exact rfl))
  all_goals try (refine ⟨⟨{d : SpD // SSp s c d.out d.fr d.i}, fun d => [(7, AI d.1.i), (6, AI d.1.fr), (5, .slc 0), (0, .str s), (1, .int .u8 c.toNat)], fun d => ⟨1, [(0, some (.seq false 9 .str d.1.out))]⟩, fun d => s.size - d.1.i⟩, ⟨⟨⟨0, 0, []⟩, ?_⟩, [], ?_⟩, ?_⟩; rotate_right; rintro ⟨⟨i, fr, out⟩, hS⟩)
  all_goals (repeat' (first
    | with_reducible refine iTr ?_
    | with_reducible refine iB ?_
    | intro _
    | exact True.intro
    | (show _ ∧ _
       first
        | refine aTT ?_
        | refine aTB ?_
        | refine aT ?_
        | refine aB ?_
        | refine a11 ?_
        | refine a01 ?_
        | refine a00 ?_
        | refine a10 ?_
        | (with_reducible refine And.intro rfl ?_)
        | refine And.intro ?_ ?_)
    | with_reducible exact rfl
    | with_reducible exact HEq.rfl
    | (show (_ : Option Nat) = _; exact rfl)
    | (show (_ : Option Blk) = _; exact rfl)
    | (with_reducible show (nodupB _ && _ && _ && _ && _) = true; exact (Eq.refl true))
    | (with_reducible show (nodupB _ && _ && _ && _) = true; exact (Eq.refl true))
    | (with_reducible show (nodupB _ && _ && _) = true; exact (Eq.refl true))
    | (with_reducible show freeOk _ _ = true; exact (Eq.refl true))
    | (with_reducible show wrOk _ _ _ _ _ = true; exact (Eq.refl true))
    | (show (_ : AV) = _; exact rfl)
    | (show (_ : ByteArray) = _; with_reducible exact rfl)
    | (show (_ : Heap) = _; exact rfl)
    | (with_reducible show (_ || !_) = true; exact (Eq.refl true))
    | (with_reducible show Nat.beq _ _ = true; exact (Eq.refl true))))
  all_goals (first | (show (_ : Int) = _) | (show (_ : Bool) = _) | (show (_ : ByteArray) = _) | (show HEq _ _) | (show ∃ _ : LInv, _) | skip)
  all_goals (try (with_reducible exact rfl))
  all_goals try (refine ⟨⟨spN s c ⟨i, fr, out⟩, ?_⟩, ?_, ?_⟩)
  all_goals (repeat' (first
    | with_reducible refine iTr ?_
    | with_reducible refine iB ?_
    | intro _
    | exact True.intro
    | (show _ ∧ _
       first
        | refine aTT ?_
        | refine aTB ?_
        | refine aT ?_
        | refine aB ?_
        | refine a11 ?_
        | refine a01 ?_
        | refine a00 ?_
        | refine a10 ?_
        | (with_reducible refine And.intro rfl ?_)
        | refine And.intro ?_ ?_)
    | with_reducible exact rfl
    | with_reducible exact HEq.rfl
    | (show (_ : Option Nat) = _; exact rfl)
    | (show (_ : Option Blk) = _; exact rfl)
    | (with_reducible show (nodupB _ && _ && _ && _ && _) = true; exact (Eq.refl true))
    | (with_reducible show (nodupB _ && _ && _ && _) = true; exact (Eq.refl true))
    | (with_reducible show (nodupB _ && _ && _) = true; exact (Eq.refl true))
    | (with_reducible show freeOk _ _ = true; exact (Eq.refl true))
    | (with_reducible show wrOk _ _ _ _ _ = true; exact (Eq.refl true))
    | (show (_ : AV) = _; exact rfl)
    | (show (_ : ByteArray) = _; with_reducible exact rfl)
    | (show (_ : Heap) = _; exact rfl)
    | (with_reducible show (_ || !_) = true; exact (Eq.refl true))
    | (with_reducible show Nat.beq _ _ = true; exact (Eq.refl true))))
  all_goals (first | (show (_ : Int) = _) | (show (_ : Bool) = _) | (show (_ : ByteArray) = _) | (show HEq _ _) | (show ∃ _ : LInv, _) | skip)
  all_goals (try (with_reducible exact rfl))
  all_goals (try dsimp only at *)
  all_goals (try replace hS : SSp s c out fr i := hS)
  all_goals (try have h1 := hS.le; have h2 := hS.le2; have h3 := hS.len)
  all_goals (try simp only [Int.toNat_natCast, decide_eq_true_eq, decide_eq_false_iff_not] at *)
  all_goals (first
    | omega
    | exact ssp_0 s c
    | exact spN_ok hS (by omega)
    | (rw [spN_t (by assumption)]; done)
    | (rw [spN_f (by assumption)]; done)
    | (rw [spN_t (by assumption)]; first | exact wrap_succ (by omega) | exact HEq.rfl)
    | (rw [spN_f (by assumption)]; first | exact wrap_succ (by omega) | exact HEq.rfl | rfl)
    | (show s.size - (spN s c ⟨i, fr, out⟩).i < s.size - i; rw [spN_i]; show s.size - (i + 1) < s.size - i; omega)
    | (show (out.length + 1) * 16 ≤ _; omega)
    | exact heq_of_eq (ssp_e hS (by omega)).symm
    | exact wrap_succ (by omega)
    | skip)
def wordL : List ByteArray := [⟨#[]⟩, ⟨#[111, 112]⟩, ⟨#[116, 97, 107, 101]⟩, ⟨#[100, 114, 111, 112]⟩, ⟨#[116, 105, 99, 107]⟩]
def cWords : Con where
  X := Unit
  args := fun _ => []
  heap := fun _ => hp0
  pre := fun _ => True
  res := fun _ => .slc 0
  heap' := fun _ => ⟨1, [(0, some (.seq false 9 .str wordL))]⟩
  pure := false
  find := fun _ _ => some ()
set_option maxRecDepth 100000 in
theorem cRWords_ok : cWords.Ok Tryd.prog 29 := by
  refine fun_ok (env_ok Cons.nil) mixedP Tryd.func29 (by decide) rfl cWords [] (fun _ => rfl) (fun h => by cases h) (fun _ => Nat.le_of_ble_eq_true rfl) ?_
  rintro ⟨⟩ - - -
  all_goals (repeat' (first
    | with_reducible refine iTr ?_
    | with_reducible refine iB ?_
    | intro _
    | exact True.intro
    | (show _ ∧ _
       first
        | refine aTT ?_
        | refine aTB ?_
        | refine aT ?_
        | refine aB ?_
        | refine a11 ?_
        | refine a01 ?_
        | refine a00 ?_
        | refine a10 ?_
        | (with_reducible refine And.intro rfl ?_)
        | refine And.intro ?_ ?_)
    | with_reducible exact rfl
    | with_reducible exact HEq.rfl
    | (show (_ : Option Nat) = _; exact rfl)
    | (show (_ : Option Blk) = _; exact rfl)
    | (with_reducible show (nodupB _ && _ && _ && _ && _) = true; exact (Eq.refl true))
    | (with_reducible show (nodupB _ && _ && _ && _) = true; exact (Eq.refl true))
    | (with_reducible show (nodupB _ && _ && _) = true; exact (Eq.refl true))
    | (with_reducible show freeOk _ _ = true; exact (Eq.refl true))
    | (with_reducible show wrOk _ _ _ _ _ = true; exact (Eq.refl true))
    | (show (_ : AV) = _; exact rfl)
    | (show (_ : ByteArray) = _; with_reducible exact rfl)
    | (show (_ : Heap) = _; exact rfl)
    | (with_reducible show (_ || !_) = true; exact (Eq.refl true))
    | (with_reducible show Nat.beq _ _ = true; exact (Eq.refl true))))
  all_goals (first | (show (_ : Int) = _) | (show (_ : Bool) = _) | (show (_ : ByteArray) = _) | (show HEq _ _) | (show ∃ _ : LInv, _) | skip)
  all_goals (try (with_reducible exact rfl))
  all_goals exact HEq.rfl
set_option maxRecDepth 100000 in
theorem cTWords_ok : cWords.Ok Tryd.prog 26 := by
  refine fun_ok (env_ok Cons.nil) mixedP Tryd.func26 (by decide) rfl cWords [] (fun _ => rfl) (fun h => by cases h) (fun _ => Nat.le_of_ble_eq_true rfl) ?_
  rintro ⟨⟩ - - -
  all_goals (repeat' (first
    | with_reducible refine iTr ?_
    | with_reducible refine iB ?_
    | intro _
    | exact True.intro
    | (show _ ∧ _
       first
        | refine aTT ?_
        | refine aTB ?_
        | refine aT ?_
        | refine aB ?_
        | refine a11 ?_
        | refine a01 ?_
        | refine a00 ?_
        | refine a10 ?_
        | (with_reducible refine And.intro rfl ?_)
        | refine And.intro ?_ ?_)
    | with_reducible exact rfl
    | with_reducible exact HEq.rfl
    | (show (_ : Option Nat) = _; exact rfl)
    | (show (_ : Option Blk) = _; exact rfl)
    | (with_reducible show (nodupB _ && _ && _ && _ && _) = true; exact (Eq.refl true))
    | (with_reducible show (nodupB _ && _ && _ && _) = true; exact (Eq.refl true))
    | (with_reducible show (nodupB _ && _ && _) = true; exact (Eq.refl true))
    | (with_reducible show freeOk _ _ = true; exact (Eq.refl true))
    | (with_reducible show wrOk _ _ _ _ _ = true; exact (Eq.refl true))
    | (show (_ : AV) = _; exact rfl)
    | (show (_ : ByteArray) = _; with_reducible exact rfl)
    | (show (_ : Heap) = _; exact rfl)
    | (with_reducible show (_ || !_) = true; exact (Eq.refl true))
    | (with_reducible show Nat.beq _ _ = true; exact (Eq.refl true))))
  all_goals (first | (show (_ : Int) = _) | (show (_ : Bool) = _) | (show (_ : ByteArray) = _) | (show HEq _ _) | (show ∃ _ : LInv, _) | skip)
  all_goals (try (with_reducible exact rfl))
  all_goals exact HEq.rfl
end Go.Proofs.YtpkidbhpfohopaaDoor
