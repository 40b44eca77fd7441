/- Layer 24: Show of both. No condition. -/
import Derived.Test.YtpkidbhpfohopaaDoorN12
noncomputable section
namespace Go.Proofs.YtpkidbhpfohopaaDoor
open Go.RowKit
set_option linter.unusedVariables false
set_option linter.unusedSimpArgs false
def slD (H : Heap) : AV → Option (List Don)
  | .vsl .don xs => some xs
  | .nils => some []
  | .slc id => match H.get id with
    | some (.seq _ _ .don xs) => some xs
    | _ => none
  | _ => none
def shW (d : Don) : ByteArray := if d.op.w = true then ⟨#[115, 116, 111, 114, 101]⟩ else ⟨#[108, 111, 97, 100]⟩
def shR (d : Don) : ByteArray := itoaB d.step ++ ⟨#[32]⟩ ++ itoaB d.node ++ ⟨#[32]⟩ ++ itoaB d.num ++ ⟨#[32]⟩ ++ rowB (shW d) [d.op.b, d.val]
def shT (l : List Don) : ByteArray := l.foldl (fun a d => a ++ shR d) ⟨#[]⟩
structure DoB (d : Don) : Prop where
  ba : inI d.step
  bb : inI d.node
  bc : inI d.num
  bd : inI d.op.b
  be : inI d.val
structure ShOk (l : List Don) : Prop where
  hl : ∀ d ∈ l, DoB d
  len : l.length ≤ 1000
theorem shR_size {d : Don} (h : DoB d) : (shR d).size ≤ 120 := by
  have h3 := rowP_size (w := shW d) (xs := [d.op.b, d.val]) (fun x hx => by
    simp only [List.mem_cons, List.not_mem_nil, or_false] at hx
    rcases hx with rfl | rfl
    · exact h.bd
    · exact h.be)
  have h4 : (shW d).size ≤ 5 := by unfold shW; split <;> decide
  have h5 := itoa_len h.ba.1 h.ba.2
  have h6 := itoa_len h.bb.1 h.bb.2
  have h7 := itoa_len h.bc.1 h.bc.2
  rw [show [d.op.b, d.val].length = 2 from rfl] at h3
  unfold shR rowB
  simp only [ba_size, sz32, sz10]
  omega
theorem shR_pos (d : Don) : 0 < (shR d).size := by
  unfold shR
  simp only [ba_size, sz32, sz10]
  omega
theorem shR_t {d : Don} (h : d.op.w = true) : itoaB d.step ++ ⟨#[32]⟩ ++ itoaB d.node ++ ⟨#[32]⟩ ++ itoaB d.num ++ ⟨#[32]⟩ ++ rowB ⟨#[115, 116, 111, 114, 101]⟩ [d.op.b, d.val] = shR d := by
  unfold shR shW
  rw [if_pos h]
theorem shR_f {d : Don} (h : d.op.w = false) : itoaB d.step ++ ⟨#[32]⟩ ++ itoaB d.node ++ ⟨#[32]⟩ ++ itoaB d.num ++ ⟨#[32]⟩ ++ rowB ⟨#[108, 111, 97, 100]⟩ [d.op.b, d.val] = shR d := by
  unfold shR shW
  rw [if_neg (by rw [h]; decide)]
theorem shQ_t {d : Don} (h : d.op.w = true) : itoaB d.step ++ ⟨#[32]⟩ ++ itoaB d.node ++ ⟨#[32]⟩ ++ itoaB d.num ++ ⟨#[32, 115, 116, 111, 114, 101, 32]⟩ ++ itoaB d.op.b ++ ⟨#[32]⟩ ++ itoaB d.val ++ ⟨#[10]⟩ = shR d := by
  rw [← shR_t h]
  apply bl_inj
  show _ = bl (_ ++ ((⟨#[115, 116, 111, 114, 101]⟩ ++ (⟨#[32]⟩ ++ itoaB d.op.b)) ++ (⟨#[32]⟩ ++ itoaB d.val) ++ ⟨#[10]⟩))
  simp only [bl_app, List.append_assoc]
  rfl
theorem shQ_f {d : Don} (h : d.op.w = false) : itoaB d.step ++ ⟨#[32]⟩ ++ itoaB d.node ++ ⟨#[32]⟩ ++ itoaB d.num ++ ⟨#[32, 108, 111, 97, 100, 32]⟩ ++ itoaB d.op.b ++ ⟨#[32]⟩ ++ itoaB d.val ++ ⟨#[10]⟩ = shR d := by
  rw [← shR_f h]
  apply bl_inj
  show _ = bl (_ ++ ((⟨#[108, 111, 97, 100]⟩ ++ (⟨#[32]⟩ ++ itoaB d.op.b)) ++ (⟨#[32]⟩ ++ itoaB d.val) ++ ⟨#[10]⟩))
  simp only [bl_app, List.append_assoc]
  rfl
theorem shT_app (l : List Don) (d : Don) : shT (l ++ [d]) = shT l ++ shR d := by
  unfold shT
  rw [List.foldl_append]
  rfl
theorem shT_step {l : List Don} {i : Nat} (h : i < l.length) : shT (l.take (i + 1)) = shT (l.take i) ++ shR (l.getD i Ty.don.dflt) := by
  rw [List.take_add_one, List.getElem?_eq_getElem h, Option.toList_some, shT_app, List.getD_eq_getElem?_getD, List.getElem?_eq_getElem h]
  rfl
theorem shT_one {l : List Don} (h : 0 < l.length) : shT (l.take (0 + 1)) = shR (l.getD 0 Ty.don.dflt) := by
  rw [shT_step h, List.take_zero]
  apply bl_inj
  rw [bl_app]
  rfl
theorem getDo {l : List Don} {i : Nat} (h : i < l.length) : l.getD i Ty.don.dflt ∈ l := by
  rw [List.getD_eq_getElem?_getD, List.getElem?_eq_getElem h]
  exact List.getElem_mem h
structure ShI (l : List Don) (i : Nat) : Prop where
  le : i ≤ l.length
  sz : (shT (l.take i)).size ≤ 120 * i
theorem shi_0 (l : List Don) : ShI l 0 := ⟨Nat.zero_le _, by rw [List.take_zero]; decide⟩
theorem shi_1 {l : List Don} {i : Nat} (hk : ShOk l) (h : ShI l i) (hi : i < l.length) : ShI l (i + 1) := by
  have hs := shR_size (hk.hl _ (getDo hi))
  refine ⟨hi, ?_⟩
  rw [shT_step hi, ba_size]
  have := h.sz
  omega
theorem sh_ne {l : List Don} {i : Nat} (h : i + 1 ≤ l.length) : bytesU (shT (l.take (i + 1))) ≠ [] := bytes_ne (by
  rw [shT_step h, ba_size]
  have := shR_pos (l.getD i Ty.don.dflt)
  omega)
def cShow : Con where
  X := List Don
  args := fun l => [.vsl .don l]
  heap := fun _ => hp0
  pre := fun l => l.length ≤ 1000
  res := fun l => .str (shT l)
  heap' := fun _ => hp0
  pure := true
  find := fun args H => match args with
    | [v] => slD H v
    | _ => none
theorem sh_ok {l : List Don} (ha : okAs [.vsl .don l]) (hp : l.length ≤ 1000) : ShOk l := by
  obtain ⟨hl, -⟩ := ha
  refine ⟨fun d hd => ?_, hp⟩
  obtain ⟨h1, h2, h3, h4, h5, h6, -⟩ := hl.1.2 d hd
  exact ⟨⟨h6.1, h6.2⟩, ⟨h1.1, h1.2⟩, ⟨h2.1, h2.2⟩, ⟨h3.1, h3.2⟩, ⟨h5.1, h5.2⟩⟩
structure DoS (d : Don) : Prop where
  sa : (itoaB d.step).size ≤ 20
  sb : (itoaB d.node).size ≤ 20
  sc : (itoaB d.num).size ≤ 20
  sd : (itoaB d.op.b).size ≤ 20
  se : (itoaB d.val).size ≤ 20
  st : (rowB ⟨#[115, 116, 111, 114, 101]⟩ [d.op.b, d.val]).size ≤ 48
  sf : (rowB ⟨#[108, 111, 97, 100]⟩ [d.op.b, d.val]).size ≤ 47
theorem dos {l : List Don} {i : Nat} (hk : ShOk l) (hi : i < l.length) : DoS (l.getD i Ty.don.dflt) := by
  have h := hk.hl _ (getDo hi)
  have hd := itoa_len h.bd.1 h.bd.2
  have he := itoa_len h.be.1 h.be.2
  refine ⟨itoa_len h.ba.1 h.ba.2, itoa_len h.bb.1 h.bb.2, itoa_len h.bc.1 h.bc.2, hd, he, ?_, ?_⟩
  · show ((⟨#[115, 116, 111, 114, 101]⟩ ++ (⟨#[32]⟩ ++ itoaB _)) ++ (⟨#[32]⟩ ++ itoaB _) ++ ⟨#[10]⟩ : ByteArray).size ≤ _
    simp only [ba_size, sz32, sz10, show ByteArray.size ⟨#[115, 116, 111, 114, 101]⟩ = 5 from rfl]
    omega
  · show ((⟨#[108, 111, 97, 100]⟩ ++ (⟨#[32]⟩ ++ itoaB _)) ++ (⟨#[32]⟩ ++ itoaB _) ++ ⟨#[10]⟩ : ByteArray).size ≤ _
    simp only [ba_size, sz32, sz10, show ByteArray.size ⟨#[108, 111, 97, 100]⟩ = 4 from rfl]
    omega
theorem szL : ByteArray.size ⟨#[32, 108, 111, 97, 100, 32]⟩ = 6 := rfl
theorem szS : ByteArray.size ⟨#[32, 115, 116, 111, 114, 101, 32]⟩ = 7 := rfl
set_option maxRecDepth 100000 in
set_option maxHeartbeats 8000000 in
theorem cRShow_ok : cShow.Ok Tryd.prog 16 := by
  refine fun_ok (env_ok (Cons.cons cNum_ok Cons.nil)) mixedP Tryd.func16 (by decide) rfl cShow [(9, 28)] (fun _ => rfl) (fun _ _ => ⟨rfl, fun id k h => by cases h⟩) (fun _ => Nat.le_of_ble_eq_true rfl) ?_
  rintro (l : List Don) hp ha hb
  replace hp : l.length ≤ 1000 := hp
  have hK := sh_ok ha hp
  clear ha hb
  all_goals (repeat' (first
    | with_reducible refine iTr ?_
    | with_reducible refine iB ?_
    | intro _
    | exact True.intro
    | (show _ ∧ _
       first
        | refine aTT ?_
        | refine aTB ?_
        | refine aT ?_
        | refine aB ?_
        | refine a11 ?_
        | refine a01 ?_
        | refine a00 ?_
        | refine a10 ?_
        | (with_reducible refine And.intro rfl ?_)
        | refine And.intro ?_ ?_)
    | with_reducible exact rfl
    | with_reducible exact HEq.rfl
    | (show (_ : Option Nat) = _; exact rfl)
    | (show (_ : Option Blk) = _; exact rfl)
    | (with_reducible show (nodupB _ && _ && _ && _ && _) = true; exact (Eq.refl true))
    | (with_reducible show (nodupB _ && _ && _ && _) = true; exact (Eq.refl true))
    | (with_reducible show (nodupB _ && _ && _) = true; exact (Eq.refl true))
    | (with_reducible show freeOk _ _ = true; exact (Eq.refl true))
    | (with_reducible show wrOk _ _ _ _ _ = true; exact (Eq.refl true))
    | (show (_ : AV) = _; exact rfl)
    | (show (_ : ByteArray) = _; with_reducible exact rfl)
    | (show (_ : Heap) = _; exact rfl)
    | (with_reducible show (_ || !_) = true; exact (Eq.refl true))
    | (with_reducible show Nat.beq _ _ = true; exact (Eq.refl true))))
  all_goals (first | (show (_ : Int) = _) | (show (_ : Bool) = _) | (show (_ : ByteArray) = _) | (show HEq _ _) | (show ∃ _ : LInv, _) | skip)
  all_goals (try (with_reducible exact rfl))
  all_goals try (refine ⟨⟨{i : Nat // ShI l i}, fun i => [(4, AI i.1), (0, .vsl .don l), (3, .str (shT (l.take i.1)))], fun i => hp0, fun i => l.length - i.1⟩, ⟨⟨0, ?_⟩, [], ?_⟩, ?_⟩; rotate_right; rintro ⟨i, hS⟩)
  all_goals (repeat' (first
    | with_reducible refine iTr ?_
    | with_reducible refine iB ?_
    | intro _
    | exact True.intro
    | (show _ ∧ _
       first
        | refine aTT ?_
        | refine aTB ?_
        | refine aT ?_
        | refine aB ?_
        | refine a11 ?_
        | refine a01 ?_
        | refine a00 ?_
        | refine a10 ?_
        | (with_reducible refine And.intro rfl ?_)
        | refine And.intro ?_ ?_)
    | with_reducible exact rfl
    | with_reducible exact HEq.rfl
    | (show (_ : Option Nat) = _; exact rfl)
    | (show (_ : Option Blk) = _; exact rfl)
    | (with_reducible show (nodupB _ && _ && _ && _ && _) = true; exact (Eq.refl true))
    | (with_reducible show (nodupB _ && _ && _ && _) = true; exact (Eq.refl true))
    | (with_reducible show (nodupB _ && _ && _) = true; exact (Eq.refl true))
    | (with_reducible show freeOk _ _ = true; exact (Eq.refl true))
    | (with_reducible show wrOk _ _ _ _ _ = true; exact (Eq.refl true))
    | (show (_ : AV) = _; exact rfl)
    | (show (_ : ByteArray) = _; with_reducible exact rfl)
    | (show (_ : Heap) = _; exact rfl)
    | (with_reducible show (_ || !_) = true; exact (Eq.refl true))
    | (with_reducible show Nat.beq _ _ = true; exact (Eq.refl true))))
  all_goals (first | (show (_ : Int) = _) | (show (_ : Bool) = _) | (show (_ : ByteArray) = _) | (show HEq _ _) | (show ∃ _ : LInv, _) | skip)
  all_goals (try (with_reducible exact rfl))
  all_goals try (refine ⟨⟨(i + 1 : Nat), ?_⟩, ?_, ?_⟩)
  all_goals (repeat' (first
    | with_reducible refine iTr ?_
    | with_reducible refine iB ?_
    | intro _
    | exact True.intro
    | (show _ ∧ _
       first
        | refine aTT ?_
        | refine aTB ?_
        | refine aT ?_
        | refine aB ?_
        | refine a11 ?_
        | refine a01 ?_
        | refine a00 ?_
        | refine a10 ?_
        | (with_reducible refine And.intro rfl ?_)
        | refine And.intro ?_ ?_)
    | with_reducible exact rfl
    | with_reducible exact HEq.rfl
    | (show (_ : Option Nat) = _; exact rfl)
    | (show (_ : Option Blk) = _; exact rfl)
    | (with_reducible show (nodupB _ && _ && _ && _ && _) = true; exact (Eq.refl true))
    | (with_reducible show (nodupB _ && _ && _ && _) = true; exact (Eq.refl true))
    | (with_reducible show (nodupB _ && _ && _) = true; exact (Eq.refl true))
    | (with_reducible show freeOk _ _ = true; exact (Eq.refl true))
    | (with_reducible show wrOk _ _ _ _ _ = true; exact (Eq.refl true))
    | (show (_ : AV) = _; exact rfl)
    | (show (_ : ByteArray) = _; with_reducible exact rfl)
    | (show (_ : Heap) = _; exact rfl)
    | (with_reducible show (_ || !_) = true; exact (Eq.refl true))
    | (with_reducible show Nat.beq _ _ = true; exact (Eq.refl true))))
  all_goals (first | (show (_ : Int) = _) | (show (_ : Bool) = _) | (show (_ : ByteArray) = _) | (show HEq _ _) | (show ∃ _ : LInv, _) | skip)
  all_goals (try (with_reducible exact rfl))
  all_goals (try dsimp only at *)
  all_goals (try replace hS : ShI l i := hS)
  all_goals (try simp only [Int.reduceToNat, Int.toNat_natCast, cond_true, cond_false, Bool.not_true, Bool.not_false, decide_eq_true_eq, decide_eq_false_iff_not, Bool.not_eq_true', Bool.not_eq_false', bne_iff_ne, ne_eq, bne_eq_false_iff_eq, beq_iff_eq, beq_eq_false_iff_ne] at *)
  all_goals (try have hi1 := hS.le)
  all_goals (try have hsz := hS.sz)
  all_goals (try have hd := dos hK (i := i) (by omega))
  all_goals (first
    | omega
    | exact rfl
    | exact HEq.rfl
    | exact shi_0 l
    | exact shi_1 hK hS (by omega)
    | (rw [shT_step (by omega), ← shQ_t (by assumption)]; done)
    | (rw [shT_step (by omega), ← shQ_f (by assumption)]; done)
    | (rw [List.take_of_length_le (by omega)]; first | done | rfl)
    | exact wrap_succ (by omega)
    | (have h1 := hd.sa; have h2 := hd.sb; have h3 := hd.sc; have h4 := hd.sd; have h5 := hd.se; simp only [ba_size, sz32, sz10, szL, szS]; omega)
    | skip)
  all_goals trace_state
def shwT (l : List Don) : Nat → Tmps
  | 0 => [(9, AI (0 : Nat)), (8, AI (l.length : Nat)), (7, .vsl .don l), (3, .ptr 0 p0)]
  | i + 1 => [(9, AI (i + 1 : Nat)), (8, AI (l.length : Nat)), (7, .vsl .don l), (3, .ptr 0 p0)]
def shwH (l : List Don) : Nat → Heap
  | 0 => ⟨1, [(0, some (.objT false bT [.nilp, .nils]))]⟩
  | i + 1 => ⟨2, [(1, some (.seq false 5 .u8 (bytesU (shT (l.take (i + 1)))))), (0, some (.objT false bT [.ptr 0 p0, .slc 1]))]⟩
set_option maxRecDepth 100000 in
set_option maxHeartbeats 8000000 in
theorem cTShow_ok : cShow.Ok Tryd.prog 15 := by
  refine fun_ok (env_ok (Cons.cons cItoa_ok (Cons.cons cTRow_ok (Cons.cons cWS_ok (Cons.cons cBst_ok Cons.nil))))) mixedP Tryd.func15 (by decide) rfl cShow [(8, 24), (2000008, 20), (2000008, 23), (4000008, 0), (4000008, 1), (4000008, 2), (4000008, 3), (4000008, 4), (4000008, 5), (4000008, 6), (4000008, 7), (4000008, 8), (4000008, 9), (4000008, 10), (4000008, 11), (4000008, 12), (4000008, 13), (4000008, 14)] (fun _ => rfl) (fun _ _ => ⟨rfl, fun id k h => by cases h⟩) (fun _ => Nat.le_of_ble_eq_true rfl) ?_
  rintro (l : List Don) hp ha hb
  replace hp : l.length ≤ 1000 := hp
  have hK := sh_ok ha hp
  clear ha hb
  all_goals (repeat' (first
    | with_reducible refine iTr ?_
    | with_reducible refine iB ?_
    | intro _
    | exact True.intro
    | (show _ ∧ _
       first
        | refine aTT ?_
        | refine aTB ?_
        | refine aT ?_
        | refine aB ?_
        | refine a11 ?_
        | refine a01 ?_
        | refine a00 ?_
        | refine a10 ?_
        | (with_reducible refine And.intro rfl ?_)
        | refine And.intro ?_ ?_)
    | with_reducible exact rfl
    | with_reducible exact HEq.rfl
    | (show (_ : Option Nat) = _; exact rfl)
    | (show (_ : Option Blk) = _; exact rfl)
    | (with_reducible show (nodupB _ && _ && _ && _ && _) = true; exact (Eq.refl true))
    | (with_reducible show (nodupB _ && _ && _ && _) = true; exact (Eq.refl true))
    | (with_reducible show (nodupB _ && _ && _) = true; exact (Eq.refl true))
    | (with_reducible show freeOk _ _ = true; exact (Eq.refl true))
    | (with_reducible show wrOk _ _ _ _ _ = true; exact (Eq.refl true))
    | (show (_ : AV) = _; exact rfl)
    | (show (_ : ByteArray) = _; with_reducible exact rfl)
    | (show (_ : Heap) = _; exact rfl)
    | (with_reducible show (_ || !_) = true; exact (Eq.refl true))
    | (with_reducible show Nat.beq _ _ = true; exact (Eq.refl true))))
  all_goals (first | (show (_ : Int) = _) | (show (_ : Bool) = _) | (show (_ : ByteArray) = _) | (show HEq _ _) | (show ∃ _ : LInv, _) | skip)
  all_goals (try (with_reducible exact rfl))
  all_goals try (refine ⟨⟨{i : Nat // ShI l i}, fun i => shwT l i.1, fun i => shwH l i.1, fun i => l.length - i.1⟩, ⟨⟨0, ?_⟩, [], ?_⟩, ?_⟩; rotate_right; rintro ⟨_ | i, hS⟩)
  all_goals (repeat' (first
    | with_reducible refine iTr ?_
    | with_reducible refine iB ?_
    | intro _
    | exact True.intro
    | (show _ ∧ _
       first
        | refine aTT ?_
        | refine aTB ?_
        | refine aT ?_
        | refine aB ?_
        | refine a11 ?_
        | refine a01 ?_
        | refine a00 ?_
        | refine a10 ?_
        | (with_reducible refine And.intro rfl ?_)
        | refine And.intro ?_ ?_)
    | with_reducible exact rfl
    | with_reducible exact HEq.rfl
    | (show (_ : Option Nat) = _; exact rfl)
    | (show (_ : Option Blk) = _; exact rfl)
    | (with_reducible show (nodupB _ && _ && _ && _ && _) = true; exact (Eq.refl true))
    | (with_reducible show (nodupB _ && _ && _ && _) = true; exact (Eq.refl true))
    | (with_reducible show (nodupB _ && _ && _) = true; exact (Eq.refl true))
    | (with_reducible show freeOk _ _ = true; exact (Eq.refl true))
    | (with_reducible show wrOk _ _ _ _ _ = true; exact (Eq.refl true))
    | (show (_ : AV) = _; exact rfl)
    | (show (_ : ByteArray) = _; with_reducible exact rfl)
    | (show (_ : Heap) = _; exact rfl)
    | (with_reducible show (_ || !_) = true; exact (Eq.refl true))
    | (with_reducible show Nat.beq _ _ = true; exact (Eq.refl true))))
  all_goals (first | (show (_ : Int) = _) | (show (_ : Bool) = _) | (show (_ : ByteArray) = _) | (show HEq _ _) | (show ∃ _ : LInv, _) | skip)
  all_goals (try (with_reducible exact rfl))
  all_goals try (first | refine ⟨⟨(i + 2 : Nat), ?_⟩, ?_, ?_⟩ | refine ⟨⟨(1 : Nat), ?_⟩, ?_, ?_⟩)
  all_goals (repeat' (first
    | with_reducible refine iTr ?_
    | with_reducible refine iB ?_
    | intro _
    | exact True.intro
    | (show _ ∧ _
       first
        | refine aTT ?_
        | refine aTB ?_
        | refine aT ?_
        | refine aB ?_
        | refine a11 ?_
        | refine a01 ?_
        | refine a00 ?_
        | refine a10 ?_
        | (with_reducible refine And.intro rfl ?_)
        | refine And.intro ?_ ?_)
    | with_reducible exact rfl
    | with_reducible exact HEq.rfl
    | (show (_ : Option Nat) = _; exact rfl)
    | (show (_ : Option Blk) = _; exact rfl)
    | (with_reducible show (nodupB _ && _ && _ && _ && _) = true; exact (Eq.refl true))
    | (with_reducible show (nodupB _ && _ && _ && _) = true; exact (Eq.refl true))
    | (with_reducible show (nodupB _ && _ && _) = true; exact (Eq.refl true))
    | (with_reducible show freeOk _ _ = true; exact (Eq.refl true))
    | (with_reducible show wrOk _ _ _ _ _ = true; exact (Eq.refl true))
    | (show (_ : AV) = _; exact rfl)
    | (show (_ : ByteArray) = _; with_reducible exact rfl)
    | (show (_ : Heap) = _; exact rfl)
    | (with_reducible show (_ || !_) = true; exact (Eq.refl true))
    | (with_reducible show Nat.beq _ _ = true; exact (Eq.refl true))))
  all_goals (first | (show (_ : Int) = _) | (show (_ : Bool) = _) | (show (_ : ByteArray) = _) | (show HEq _ _) | (show ∃ _ : LInv, _) | skip)
  all_goals (try (with_reducible exact rfl))
  all_goals (try dsimp only at *)
  all_goals (try replace hS : ShI l (i + 1) := hS)
  all_goals (try simp only [Int.reduceToNat, Int.toNat_natCast, cond_true, cond_false, Bool.not_true, Bool.not_false, decide_eq_true_eq, decide_eq_false_iff_not, Bool.not_eq_true', Bool.not_eq_false', bne_iff_ne, ne_eq, bne_eq_false_iff_eq, beq_iff_eq, beq_eq_false_iff_ne] at *)
  all_goals (try have hi1 := hS.le)
  all_goals (try have hsz := hS.sz)
  all_goals (try first | have hd := dos hK (i := i + 1) (by omega) | have hd := dos hK (i := 0) (by omega))
  all_goals (first
    | omega
    | exact rfl
    | exact HEq.rfl
    | decide
    | (simp only [List.length_cons, List.length_nil]; omega)
    | exact shi_0 l
    | exact shi_1 hK hS (by omega)
    | exact shi_1 hK (shi_0 l) (by omega)
    | exact absurd (by assumption) (sh_ne hi1)
    | (refine heq_of_eq ?_; rw [← bytesU_app, shT_step (l := l) (i := i + 1) (by omega), shR_t (by assumption)]; done)
    | (refine heq_of_eq ?_; rw [← bytesU_app, shT_step (l := l) (i := i + 1) (by omega), shR_f (by assumption)]; done)
    | (refine heq_of_eq ?_; rw [shT_one (by omega), ← shR_t (by assumption)]; done)
    | (refine heq_of_eq ?_; rw [shT_one (by omega), ← shR_f (by assumption)]; done)
    | (rw [strU_bytes, List.take_of_length_le (by omega)]; first | done | rfl)
    | (rw [List.eq_nil_of_length_eq_zero (show l.length = 0 by omega)]; first | done | rfl)
    | exact wrap_succ (by omega)
    | (have h1 := hd.sa; have h2 := hd.sb; have h3 := hd.sc; have h4 := hd.st; have h5 := hd.sf; simp only [ba_size, sz32, sz10, szL, szS, bytes_len]; omega)
    | skip)
  all_goals trace_state
end Go.Proofs.YtpkidbhpfohopaaDoor
