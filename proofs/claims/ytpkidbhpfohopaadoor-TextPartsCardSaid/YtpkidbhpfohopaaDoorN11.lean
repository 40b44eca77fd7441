/- Layer 24: a row of a word and numbers, in both; the kinds' words, only read. No condition. -/
import Derived.Test.YtpkidbhpfohopaaDoorN10
noncomputable section
namespace Go.Proofs.YtpkidbhpfohopaaDoor
open Go.RowKit
set_option linter.unusedVariables false
set_option linter.unusedSimpArgs false
def slI (H : Heap) : AV → Option (List Int)
  | .vsl .int xs => some xs
  | .nils => some []
  | .slc id => match H.get id with
    | some (.seq _ _ .int xs) => some xs
    | _ => none
  | _ => none
def rowP (w : ByteArray) (xs : List Int) : ByteArray := xs.foldl (fun a x => a ++ (⟨#[32]⟩ ++ itoaB x)) w
def rowB (w : ByteArray) (xs : List Int) : ByteArray := rowP w xs ++ ⟨#[10]⟩
theorem rowP_step {w : ByteArray} {xs : List Int} {i : Nat} (h : i < xs.length) : rowP w (xs.take (i + 1)) = rowP w (xs.take i) ++ (⟨#[32]⟩ ++ itoaB (xs.getD i Ty.int.dflt)) := by
  unfold rowP
  rw [List.take_add_one, List.foldl_append, List.getElem?_eq_getElem h, List.getD_eq_getElem?_getD, List.getElem?_eq_getElem h]
  rfl
theorem ba_size (s t : ByteArray) : (s ++ t).size = s.size + t.size := by rw [← bl_len, bl_app, List.length_append, bl_len, bl_len]
theorem ba_assoc (s t u : ByteArray) : s ++ t ++ u = s ++ (t ++ u) := bl_inj (by simp only [bl_app, List.append_assoc])
def inI (n : Int) : Prop := -9223372036854775808 ≤ n ∧ n ≤ 9223372036854775807
theorem rowP_size : ∀ {xs : List Int} {w : ByteArray}, (∀ x ∈ xs, inI x) → (rowP w xs).size ≤ w.size + 21 * xs.length
  | [], w, _ => Nat.le_refl _
  | x :: xs, w, h => by
    have ih := rowP_size (xs := xs) (w := w ++ (⟨#[32]⟩ ++ itoaB x)) fun y hy => h y (List.mem_cons_of_mem _ hy)
    have h1 := itoa_len (h x (List.mem_cons_self ..)).1 (h x (List.mem_cons_self ..)).2
    rw [ba_size, ba_size, show ByteArray.size ⟨#[32]⟩ = 1 from rfl] at ih
    show (rowP (w ++ (⟨#[32]⟩ ++ itoaB x)) xs).size ≤ _
    rw [List.length_cons]
    omega
theorem rowP_pos : ∀ {xs : List Int} {w : ByteArray}, w.size ≤ (rowP w xs).size
  | [], w => Nat.le_refl _
  | x :: xs, w => by
    have ih := rowP_pos (xs := xs) (w := w ++ (⟨#[32]⟩ ++ itoaB x))
    rw [ba_size] at ih
    show _ ≤ (rowP (w ++ (⟨#[32]⟩ ++ itoaB x)) xs).size
    omega
theorem bytesU_app (s t : ByteArray) : bytesU (s ++ t) = bytesU s ++ bytesU t := by
  show (bl (s ++ t)).map _ = (bl s).map _ ++ (bl t).map _
  rw [bl_app, List.map_append]
theorem strU_bytes (s : ByteArray) : strU (bytesU s) = s := by
  rw [strU_eq]
  apply bl_inj
  show (List.map _ (bytesU s)) = bl s
  unfold bytesU
  rw [List.map_map]
  conv => rhs; rw [← List.map_id (bl s)]
  apply List.map_congr_left
  intro b _
  show UInt8.ofNat (Int.toNat ((b.toNat : Nat) : Int)) = b
  rw [Int.toNat_natCast]
  exact UInt8.ofNat_toNat
theorem bytes_len (s : ByteArray) : (bytesU s).length = s.size := by
  unfold bytesU
  rw [List.length_map]
  exact bl_len s
theorem bytes_ne {s : ByteArray} (h : 0 < s.size) : bytesU s ≠ [] := fun e => by
  have := congrArg List.length e
  rw [bytes_len, List.length_nil] at this
  omega
theorem sz32 : ByteArray.size ⟨#[32]⟩ = 1 := rfl
theorem sz10 : ByteArray.size ⟨#[10]⟩ = 1 := rfl
structure RwOk (w : ByteArray) (xs : List Int) : Prop where
  pos : 0 < w.size
  le : w.size ≤ 100
  len : xs.length ≤ 100
  ok : ∀ x ∈ xs, inI x
theorem RwOk.take {w : ByteArray} {xs : List Int} (h : RwOk w xs) (i : Nat) : (rowP w (xs.take i)).size ≤ 2200 := by
  have h1 := rowP_size (w := w) (xs := xs.take i) fun x hx => h.ok x (List.mem_of_mem_take hx)
  rw [List.length_take] at h1
  have := h.le
  have := h.len
  omega
theorem RwOk.size {w : ByteArray} {xs : List Int} (h : RwOk w xs) : (rowB w xs).size ≤ 2201 := by
  have h1 := h.take xs.length
  rw [List.take_length] at h1
  unfold rowB
  rw [ba_size, show ByteArray.size ⟨#[10]⟩ = 1 from rfl]
  omega
theorem RwOk.it {w : ByteArray} {xs : List Int} (h : RwOk w xs) {i : Nat} (hi : i < xs.length) : (itoaB (xs.getD i Ty.int.dflt)).size ≤ 20 := by
  have h2 := h.ok _ (List.getElem_mem hi)
  rw [List.getD_eq_getElem?_getD, List.getElem?_eq_getElem hi]
  exact itoa_len h2.1 h2.2
theorem RwOk.ne {w : ByteArray} {xs : List Int} (h : RwOk w xs) {i : Nat} : bytesU (rowP w (xs.take i)) ≠ [] := bytes_ne (Nat.lt_of_lt_of_le h.pos rowP_pos)
def cRow : Con where
  X := ByteArray × List Int
  args := fun x => [.str x.1, .vsl .int x.2]
  heap := fun _ => hp0
  pre := fun x => 0 < x.1.size ∧ x.1.size ≤ 100 ∧ x.2.length ≤ 100
  res := fun x => .str (rowB x.1 x.2)
  heap' := fun _ => hp0
  pure := true
  find := fun args H => match args with
    | [.str s, v] => match slI H v with
      | some l => some (s, l)
      | none => none
    | _ => none
set_option maxRecDepth 100000 in
set_option maxHeartbeats 4000000 in
theorem cRRow_ok : cRow.Ok Tryd.prog 28 := by
  refine fun_ok (env_ok (Cons.cons cNum_ok Cons.nil)) mixedP Tryd.func28 (by decide) rfl cRow [] (fun _ => rfl) (fun _ _ => ⟨rfl, fun id k h => by cases h⟩) (fun _ => Nat.le_of_ble_eq_true rfl) ?_
  rintro ⟨w, xs⟩ hp ha hb
  replace hp : 0 < w.size ∧ w.size ≤ 100 ∧ xs.length ≤ 100 := hp
  have hK : RwOk w xs := ⟨hp.1, hp.2.1, hp.2.2, fun x hx => ⟨(ha.2.1.1.2 x hx).1.1, (ha.2.1.1.2 x hx).1.2⟩⟩
  clear ha hb
  all_goals (repeat' (first
    | with_reducible refine iTr ?_
    | with_reducible refine iB ?_
    | intro _
    | exact True.intro
    | (show _ ∧ _
       first
        | refine aTT ?_
        | refine aTB ?_
        | refine aT ?_
        | refine aB ?_
        | refine a11 ?_
        | refine a01 ?_
        | refine a00 ?_
        | refine a10 ?_
        | (with_reducible refine And.intro rfl ?_)
        | refine And.intro ?_ ?_)
    | with_reducible exact rfl
    | with_reducible exact HEq.rfl
    | (show (_ : Option Nat) = _; exact rfl)
    | (show (_ : Option Blk) = _; exact rfl)
    | (with_reducible show (nodupB _ && _ && _ && _ && _) = true; exact (Eq.refl true))
    | (with_reducible show (nodupB _ && _ && _ && _) = true; exact (Eq.refl true))
    | (with_reducible show (nodupB _ && _ && _) = true; exact (Eq.refl true))
    | (with_reducible show freeOk _ _ = true; exact (Eq.refl true))
    | (with_reducible show wrOk _ _ _ _ _ = true; exact (Eq.refl true))
    | (show (_ : AV) = _; exact rfl)
    | (show (_ : ByteArray) = _; with_reducible exact rfl)
    | (show (_ : Heap) = _; exact rfl)
    | (with_reducible show (_ || !_) = true; exact (Eq.refl true))
    | (with_reducible show Nat.beq _ _ = true; exact (Eq.refl true))))
  all_goals (first | (show (_ : Int) = _) | (show (_ : Bool) = _) | (show (_ : ByteArray) = _) | (show HEq _ _) | (show ∃ _ : LInv, _) | skip)
  all_goals (try (with_reducible exact rfl))
  all_goals try (refine ⟨⟨{i : Nat // i ≤ xs.length}, fun i => [(5, AI i.1), (1, .vsl .int xs), (0, .str (rowP w (xs.take i.1)))], fun i => hp0, fun i => xs.length - i.1⟩, ⟨⟨0, ?_⟩, [], ?_⟩, ?_⟩; rotate_right; rintro ⟨i, hS⟩)
  all_goals (repeat' (first
    | with_reducible refine iTr ?_
    | with_reducible refine iB ?_
    | intro _
    | exact True.intro
    | (show _ ∧ _
       first
        | refine aTT ?_
        | refine aTB ?_
        | refine aT ?_
        | refine aB ?_
        | refine a11 ?_
        | refine a01 ?_
        | refine a00 ?_
        | refine a10 ?_
        | (with_reducible refine And.intro rfl ?_)
        | refine And.intro ?_ ?_)
    | with_reducible exact rfl
    | with_reducible exact HEq.rfl
    | (show (_ : Option Nat) = _; exact rfl)
    | (show (_ : Option Blk) = _; exact rfl)
    | (with_reducible show (nodupB _ && _ && _ && _ && _) = true; exact (Eq.refl true))
    | (with_reducible show (nodupB _ && _ && _ && _) = true; exact (Eq.refl true))
    | (with_reducible show (nodupB _ && _ && _) = true; exact (Eq.refl true))
    | (with_reducible show freeOk _ _ = true; exact (Eq.refl true))
    | (with_reducible show wrOk _ _ _ _ _ = true; exact (Eq.refl true))
    | (show (_ : AV) = _; exact rfl)
    | (show (_ : ByteArray) = _; with_reducible exact rfl)
    | (show (_ : Heap) = _; exact rfl)
    | (with_reducible show (_ || !_) = true; exact (Eq.refl true))
    | (with_reducible show Nat.beq _ _ = true; exact (Eq.refl true))))
  all_goals (first | (show (_ : Int) = _) | (show (_ : Bool) = _) | (show (_ : ByteArray) = _) | (show HEq _ _) | (show ∃ _ : LInv, _) | skip)
  all_goals (try (with_reducible exact rfl))
  all_goals try (refine ⟨⟨(i + 1 : Nat), ?_⟩, ?_, ?_⟩)
  all_goals (repeat' (first
    | with_reducible refine iTr ?_
    | with_reducible refine iB ?_
    | intro _
    | exact True.intro
    | (show _ ∧ _
       first
        | refine aTT ?_
        | refine aTB ?_
        | refine aT ?_
        | refine aB ?_
        | refine a11 ?_
        | refine a01 ?_
        | refine a00 ?_
        | refine a10 ?_
        | (with_reducible refine And.intro rfl ?_)
        | refine And.intro ?_ ?_)
    | with_reducible exact rfl
    | with_reducible exact HEq.rfl
    | (show (_ : Option Nat) = _; exact rfl)
    | (show (_ : Option Blk) = _; exact rfl)
    | (with_reducible show (nodupB _ && _ && _ && _ && _) = true; exact (Eq.refl true))
    | (with_reducible show (nodupB _ && _ && _ && _) = true; exact (Eq.refl true))
    | (with_reducible show (nodupB _ && _ && _) = true; exact (Eq.refl true))
    | (with_reducible show freeOk _ _ = true; exact (Eq.refl true))
    | (with_reducible show wrOk _ _ _ _ _ = true; exact (Eq.refl true))
    | (show (_ : AV) = _; exact rfl)
    | (show (_ : ByteArray) = _; with_reducible exact rfl)
    | (show (_ : Heap) = _; exact rfl)
    | (with_reducible show (_ || !_) = true; exact (Eq.refl true))
    | (with_reducible show Nat.beq _ _ = true; exact (Eq.refl true))))
  all_goals (first | (show (_ : Int) = _) | (show (_ : Bool) = _) | (show (_ : ByteArray) = _) | (show HEq _ _) | (show ∃ _ : LInv, _) | skip)
  all_goals (try (with_reducible exact rfl))
  all_goals (try dsimp only at *)
  all_goals (try replace hS : i ≤ xs.length := hS)
  all_goals (try simp only [Int.reduceToNat, Int.toNat_natCast, cond_true, cond_false, Bool.not_true, Bool.not_false, decide_eq_true_eq, decide_eq_false_iff_not, Bool.not_eq_true', Bool.not_eq_false', bne_iff_ne, ne_eq, bne_eq_false_iff_eq, beq_iff_eq, beq_eq_false_iff_ne] at *)
  all_goals (first
    | omega
    | exact rfl
    | exact HEq.rfl
    | exact wrap_succ (by omega)
    | exact heq_of_eq (rowP_step (by omega)).symm
    | exact (rowP_step (by omega)).symm
    | (rw [List.take_of_length_le (by omega)]; first | done | exact rfl | exact HEq.rfl)
    | (have h1 := hK.take i; have h2 := hK.it (i := i) (by omega); simp only [ba_size, sz32, sz10, strU_bytes, bytes_len]; omega)
    | (have h1 := hK.take i; simp only [ba_size, sz32, sz10, strU_bytes, bytes_len]; omega)
    | skip)
  all_goals trace_state
set_option maxRecDepth 100000 in
set_option maxHeartbeats 4000000 in
theorem cTRow_ok : cRow.Ok Tryd.prog 25 := by
  refine fun_ok (env_ok (Cons.cons cItoa_ok (Cons.cons cWS_ok (Cons.cons cBst_ok Cons.nil)))) mixedP Tryd.func25 (by decide) rfl cRow [] (fun _ => rfl) (fun _ _ => ⟨rfl, fun id k h => by cases h⟩) (fun _ => Nat.le_of_ble_eq_true rfl) ?_
  rintro ⟨w, xs⟩ hp ha hb
  replace hp : 0 < w.size ∧ w.size ≤ 100 ∧ xs.length ≤ 100 := hp
  have hK : RwOk w xs := ⟨hp.1, hp.2.1, hp.2.2, fun x hx => ⟨(ha.2.1.1.2 x hx).1.1, (ha.2.1.1.2 x hx).1.2⟩⟩
  clear ha hb
  all_goals (repeat' (first
    | with_reducible refine iTr ?_
    | with_reducible refine iB ?_
    | intro _
    | exact True.intro
    | (show _ ∧ _
       first
        | refine aTT ?_
        | refine aTB ?_
        | refine aT ?_
        | refine aB ?_
        | refine a11 ?_
        | refine a01 ?_
        | refine a00 ?_
        | refine a10 ?_
        | (with_reducible refine And.intro rfl ?_)
        | refine And.intro ?_ ?_)
    | with_reducible exact rfl
    | with_reducible exact HEq.rfl
    | (show (_ : Option Nat) = _; exact rfl)
    | (show (_ : Option Blk) = _; exact rfl)
    | (with_reducible show (nodupB _ && _ && _ && _ && _) = true; exact (Eq.refl true))
    | (with_reducible show (nodupB _ && _ && _ && _) = true; exact (Eq.refl true))
    | (with_reducible show (nodupB _ && _ && _) = true; exact (Eq.refl true))
    | (with_reducible show freeOk _ _ = true; exact (Eq.refl true))
    | (with_reducible show wrOk _ _ _ _ _ = true; exact (Eq.refl true))
    | (show (_ : AV) = _; exact rfl)
    | (show (_ : ByteArray) = _; with_reducible exact rfl)
    | (show (_ : Heap) = _; exact rfl)
    | (with_reducible show (_ || !_) = true; exact (Eq.refl true))
    | (with_reducible show Nat.beq _ _ = true; exact (Eq.refl true))))
  all_goals (first | (show (_ : Int) = _) | (show (_ : Bool) = _) | (show (_ : ByteArray) = _) | (show HEq _ _) | (show ∃ _ : LInv, _) | skip)
  all_goals (try (with_reducible exact rfl))
  all_goals try (refine ⟨⟨{i : Nat // i ≤ xs.length}, fun i => [(12, AI i.1), (11, AI (xs.length : Nat)), (10, .vsl .int xs), (5, .ptr 0 p0)], fun i => ⟨2, [(1, some (.seq false 5 .u8 (bytesU (rowP w (xs.take i.1))))), (0, some (.objT false bT [.ptr 0 p0, .slc 1]))]⟩, fun i => xs.length - i.1⟩, ⟨⟨0, ?_⟩, [], ?_⟩, ?_⟩; rotate_right; rintro ⟨i, hS⟩)
  all_goals (repeat' (first
    | with_reducible refine iTr ?_
    | with_reducible refine iB ?_
    | intro _
    | exact True.intro
    | (show _ ∧ _
       first
        | refine aTT ?_
        | refine aTB ?_
        | refine aT ?_
        | refine aB ?_
        | refine a11 ?_
        | refine a01 ?_
        | refine a00 ?_
        | refine a10 ?_
        | (with_reducible refine And.intro rfl ?_)
        | refine And.intro ?_ ?_)
    | with_reducible exact rfl
    | with_reducible exact HEq.rfl
    | (show (_ : Option Nat) = _; exact rfl)
    | (show (_ : Option Blk) = _; exact rfl)
    | (with_reducible show (nodupB _ && _ && _ && _ && _) = true; exact (Eq.refl true))
    | (with_reducible show (nodupB _ && _ && _ && _) = true; exact (Eq.refl true))
    | (with_reducible show (nodupB _ && _ && _) = true; exact (Eq.refl true))
    | (with_reducible show freeOk _ _ = true; exact (Eq.refl true))
    | (with_reducible show wrOk _ _ _ _ _ = true; exact (Eq.refl true))
    | (show (_ : AV) = _; exact rfl)
    | (show (_ : ByteArray) = _; with_reducible exact rfl)
    | (show (_ : Heap) = _; exact rfl)
    | (with_reducible show (_ || !_) = true; exact (Eq.refl true))
    | (with_reducible show Nat.beq _ _ = true; exact (Eq.refl true))))
  all_goals (first | (show (_ : Int) = _) | (show (_ : Bool) = _) | (show (_ : ByteArray) = _) | (show HEq _ _) | (show ∃ _ : LInv, _) | skip)
  all_goals (try (with_reducible exact rfl))
  all_goals try (refine ⟨⟨(i + 1 : Nat), ?_⟩, ?_, ?_⟩)
  all_goals (repeat' (first
    | with_reducible refine iTr ?_
    | with_reducible refine iB ?_
    | intro _
    | exact True.intro
    | (show _ ∧ _
       first
        | refine aTT ?_
        | refine aTB ?_
        | refine aT ?_
        | refine aB ?_
        | refine a11 ?_
        | refine a01 ?_
        | refine a00 ?_
        | refine a10 ?_
        | (with_reducible refine And.intro rfl ?_)
        | refine And.intro ?_ ?_)
    | with_reducible exact rfl
    | with_reducible exact HEq.rfl
    | (show (_ : Option Nat) = _; exact rfl)
    | (show (_ : Option Blk) = _; exact rfl)
    | (with_reducible show (nodupB _ && _ && _ && _ && _) = true; exact (Eq.refl true))
    | (with_reducible show (nodupB _ && _ && _ && _) = true; exact (Eq.refl true))
    | (with_reducible show (nodupB _ && _ && _) = true; exact (Eq.refl true))
    | (with_reducible show freeOk _ _ = true; exact (Eq.refl true))
    | (with_reducible show wrOk _ _ _ _ _ = true; exact (Eq.refl true))
    | (show (_ : AV) = _; exact rfl)
    | (show (_ : ByteArray) = _; with_reducible exact rfl)
    | (show (_ : Heap) = _; exact rfl)
    | (with_reducible show (_ || !_) = true; exact (Eq.refl true))
    | (with_reducible show Nat.beq _ _ = true; exact (Eq.refl true))))
  all_goals (first | (show (_ : Int) = _) | (show (_ : Bool) = _) | (show (_ : ByteArray) = _) | (show HEq _ _) | (show ∃ _ : LInv, _) | skip)
  all_goals (try (with_reducible exact rfl))
  all_goals (try dsimp only at *)
  all_goals (try replace hS : i ≤ xs.length := hS)
  all_goals (try simp only [Int.reduceToNat, Int.toNat_natCast, cond_true, cond_false, Bool.not_true, Bool.not_false, decide_eq_true_eq, decide_eq_false_iff_not, Bool.not_eq_true', Bool.not_eq_false', bne_iff_ne, ne_eq, bne_eq_false_iff_eq, beq_iff_eq, beq_eq_false_iff_ne] at *)
  all_goals (first
    | omega
    | exact rfl
    | exact HEq.rfl
    | exact wrap_succ (by omega)
    | (refine heq_of_eq ?_; rw [← bytesU_app, ← rowP_step (by omega)])
    | (rw [List.take_of_length_le (by omega), strU_bytes]; first | done | exact rfl | exact HEq.rfl)
    | exact absurd (by assumption) hK.ne
    | (have h1 := hK.take i; have h2 := hK.it (i := i) (by omega); simp only [ba_size, sz32, sz10, strU_bytes, bytes_len]; omega)
    | (have h1 := hK.take i; simp only [ba_size, sz32, sz10, strU_bytes, bytes_len]; omega)
    | skip)
  all_goals trace_state
set_option maxRecDepth 100000 in
def cWordP : Con where
  X := Unit
  args := fun _ => []
  heap := fun _ => hp0
  pre := fun _ => True
  res := fun _ => .vsl .str wordL
  heap' := fun _ => hp0
  pure := true
  find := fun _ _ => some ()
theorem cRWordP_ok : cWordP.Ok Tryd.prog 29 := by
  refine fun_ok (env_ok Cons.nil) mixedP Tryd.func29 (by decide) rfl cWordP [] (fun _ => rfl) (fun _ _ => ⟨rfl, fun id k h => by cases h⟩) (fun _ => Nat.le_of_ble_eq_true rfl) ?_
  rintro ⟨⟩ - - -
  all_goals (repeat' (first
    | with_reducible refine iTr ?_
    | with_reducible refine iB ?_
    | intro _
    | exact True.intro
    | (show _ ∧ _
       first
        | refine aTT ?_
        | refine aTB ?_
        | refine aT ?_
        | refine aB ?_
        | refine a11 ?_
        | refine a01 ?_
        | refine a00 ?_
        | refine a10 ?_
        | (with_reducible refine And.intro rfl ?_)
        | refine And.intro ?_ ?_)
    | with_reducible exact rfl
    | with_reducible exact HEq.rfl
    | (show (_ : Option Nat) = _; exact rfl)
    | (show (_ : Option Blk) = _; exact rfl)
    | (with_reducible show (nodupB _ && _ && _ && _ && _) = true; exact (Eq.refl true))
    | (with_reducible show (nodupB _ && _ && _ && _) = true; exact (Eq.refl true))
    | (with_reducible show (nodupB _ && _ && _) = true; exact (Eq.refl true))
    | (with_reducible show freeOk _ _ = true; exact (Eq.refl true))
    | (with_reducible show wrOk _ _ _ _ _ = true; exact (Eq.refl true))
    | (show (_ : AV) = _; exact rfl)
    | (show (_ : ByteArray) = _; with_reducible exact rfl)
    | (show (_ : Heap) = _; exact rfl)
    | (with_reducible show (_ || !_) = true; exact (Eq.refl true))
    | (with_reducible show Nat.beq _ _ = true; exact (Eq.refl true))))
  all_goals (first | (show (_ : Int) = _) | (show (_ : Bool) = _) | (show (_ : ByteArray) = _) | (show HEq _ _) | (show ∃ _ : LInv, _) | skip)
  all_goals (try (with_reducible exact rfl))
  all_goals exact HEq.rfl
set_option maxRecDepth 100000 in
theorem cTWordP_ok : cWordP.Ok Tryd.prog 26 := by
  refine fun_ok (env_ok Cons.nil) mixedP Tryd.func26 (by decide) rfl cWordP [] (fun _ => rfl) (fun _ _ => ⟨rfl, fun id k h => by cases h⟩) (fun _ => Nat.le_of_ble_eq_true rfl) ?_
  rintro ⟨⟩ - - -
  all_goals (repeat' (first
    | with_reducible refine iTr ?_
    | with_reducible refine iB ?_
    | intro _
    | exact True.intro
    | (show _ ∧ _
       first
        | refine aTT ?_
        | refine aTB ?_
        | refine aT ?_
        | refine aB ?_
        | refine a11 ?_
        | refine a01 ?_
        | refine a00 ?_
        | refine a10 ?_
        | (with_reducible refine And.intro rfl ?_)
        | refine And.intro ?_ ?_)
    | with_reducible exact rfl
    | with_reducible exact HEq.rfl
    | (show (_ : Option Nat) = _; exact rfl)
    | (show (_ : Option Blk) = _; exact rfl)
    | (with_reducible show (nodupB _ && _ && _ && _ && _) = true; exact (Eq.refl true))
    | (with_reducible show (nodupB _ && _ && _ && _) = true; exact (Eq.refl true))
    | (with_reducible show (nodupB _ && _ && _) = true; exact (Eq.refl true))
    | (with_reducible show freeOk _ _ = true; exact (Eq.refl true))
    | (with_reducible show wrOk _ _ _ _ _ = true; exact (Eq.refl true))
    | (show (_ : AV) = _; exact rfl)
    | (show (_ : ByteArray) = _; with_reducible exact rfl)
    | (show (_ : Heap) = _; exact rfl)
    | (with_reducible show (_ || !_) = true; exact (Eq.refl true))
    | (with_reducible show Nat.beq _ _ = true; exact (Eq.refl true))))
  all_goals (first | (show (_ : Int) = _) | (show (_ : Bool) = _) | (show (_ : ByteArray) = _) | (show HEq _ _) | (show ∃ _ : LInv, _) | skip)
  all_goals (try (with_reducible exact rfl))
  all_goals exact HEq.rfl
end Go.Proofs.YtpkidbhpfohopaaDoor
