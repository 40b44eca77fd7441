/- Layer 24: Print of both. No condition. -/
import Derived.Test.YtpkidbhpfohopaaDoorN11
noncomputable section
namespace Go.Proofs.YtpkidbhpfohopaaDoor
open Go.RowKit
set_option linter.unusedVariables false
set_option linter.unusedSimpArgs false
def slE (H : Heap) : AV → Option (List Ent)
  | .vsl .ent xs => some xs
  | .nils => some []
  | .slc id => match H.get id with
    | some (.seq _ _ .ent xs) => some xs
    | _ => none
  | _ => none
def headL (c : Cfg) : List Int := [c.nodes, c.blocks, c.tokens, c.sets, c.ways, c.cap, c.wait, c.tries, c.policy]
def enL (e : Ent) : List Int := [e.a, e.b, e.c, e.d]
def enW (e : Ent) : ByteArray := wordL.getD e.kind.toNat Ty.str.dflt
def enR (e : Ent) : ByteArray := rowB (enW e) (enL e)
def pnP (c : Cfg) (l : List Ent) : ByteArray := l.foldl (fun a e => a ++ enR e) (rowB wWord (headL c))
def kOk (e : Ent) : Bool := decide (1 ≤ e.kind) && decide (e.kind ≤ 4)
def pnO (l : List Ent) : Bool := l.all kOk
def pnT (c : Cfg) (l : List Ent) : ByteArray := if pnO l = true then pnP c l else ⟨#[]⟩
structure EnB (e : Ent) : Prop where
  a : inI e.a
  b : inI e.b
  c : inI e.c
  d : inI e.d
structure CfB (c : Cfg) : Prop where
  ok : ∀ x ∈ headL c, inI x
structure PnOk (c : Cfg) (l : List Ent) : Prop where
  hc : CfB c
  hl : ∀ e ∈ l, EnB e
  len : l.length ≤ 10000
theorem enL_ok {e : Ent} (h : EnB e) : ∀ x ∈ enL e, inI x := by
  intro x hx
  simp only [enL, List.mem_cons, List.not_mem_nil, or_false] at hx
  rcases hx with rfl | rfl | rfl | rfl
  · exact h.a
  · exact h.b
  · exact h.c
  · exact h.d
theorem kind_cases {k : Int} (h1 : 1 ≤ k) (h2 : k ≤ 4) : k = 1 ∨ k = 2 ∨ k = 3 ∨ k = 4 := by omega
theorem enW_size {e : Ent} (h1 : 1 ≤ e.kind) (h2 : e.kind ≤ 4) : 0 < (enW e).size ∧ (enW e).size ≤ 4 := by
  unfold enW
  rcases kind_cases h1 h2 with h | h | h | h <;> rw [h] <;> decide
theorem enR_size {e : Ent} (h : EnB e) (h1 : 1 ≤ e.kind) (h2 : e.kind ≤ 4) : (enR e).size ≤ 90 := by
  have h3 := rowP_size (w := enW e) (xs := enL e) (enL_ok h)
  have h4 := (enW_size h1 h2).2
  rw [show (enL e).length = 4 from rfl] at h3
  unfold enR rowB
  rw [ba_size, show ByteArray.size ⟨#[10]⟩ = 1 from rfl]
  omega
theorem head_size {c : Cfg} (h : CfB c) : (rowB wWord (headL c)).size ≤ 195 := by
  have h3 := rowP_size (w := wWord) (xs := headL c) h.ok
  rw [show (headL c).length = 9 from rfl, show wWord.size = 5 from rfl] at h3
  unfold rowB
  rw [ba_size, show ByteArray.size ⟨#[10]⟩ = 1 from rfl]
  omega
theorem pnP_nil (c : Cfg) : pnP c [] = rowB wWord (headL c) := rfl
theorem pnP_app (c : Cfg) (l : List Ent) (e : Ent) : pnP c (l ++ [e]) = pnP c l ++ enR e := by
  unfold pnP
  rw [List.foldl_append]
  rfl
theorem pnP_step {c : Cfg} {l : List Ent} {i : Nat} (h : i < l.length) : pnP c (l.take (i + 1)) = pnP c (l.take i) ++ enR (l.getD i Ty.ent.dflt) := by
  rw [List.take_add_one, List.getElem?_eq_getElem h, Option.toList_some, pnP_app, List.getD_eq_getElem?_getD, List.getElem?_eq_getElem h]
  rfl
structure PnI (c : Cfg) (l : List Ent) (i : Nat) : Prop where
  le : i ≤ l.length
  ok : pnO (l.take i) = true
  sz : (pnP c (l.take i)).size ≤ 195 + 90 * i
  pos : 0 < (pnP c (l.take i)).size
theorem pni_0 {c : Cfg} {l : List Ent} (h : PnOk c l) : PnI c l 0 := by
  refine ⟨Nat.zero_le _, rfl, ?_, ?_⟩
  · rw [List.take_zero, pnP_nil]
    have := head_size h.hc
    omega
  · rw [List.take_zero, pnP_nil]
    unfold rowB
    rw [ba_size, show ByteArray.size ⟨#[10]⟩ = 1 from rfl]
    omega
theorem getE {l : List Ent} {i : Nat} (h : i < l.length) : l.getD i Ty.ent.dflt ∈ l := by
  rw [List.getD_eq_getElem?_getD, List.getElem?_eq_getElem h]
  exact List.getElem_mem h
theorem pni_1 {c : Cfg} {l : List Ent} {i : Nat} (hk : PnOk c l) (h : PnI c l i) (h1 : 1 ≤ (l.getD i Ty.ent.dflt).kind) (h2 : (l.getD i Ty.ent.dflt).kind ≤ 4) (hi : i < l.length) : PnI c l (i + 1) := by
  have hs := enR_size (hk.hl _ (getE hi)) h1 h2
  refine ⟨hi, ?_, ?_, ?_⟩
  · unfold pnO
    rw [List.take_add_one, List.getElem?_eq_getElem hi, List.all_append]
    have := h.ok
    unfold pnO at this
    rw [this]
    rw [List.getD_eq_getElem?_getD, List.getElem?_eq_getElem hi] at h1 h2
    simp only [Option.getD_some] at h1 h2
    simp [kOk, h1, h2]
  · rw [pnP_step hi, ba_size]
    have := h.sz
    omega
  · rw [pnP_step hi, ba_size]
    have := h.pos
    omega
theorem pni_t {c : Cfg} {l : List Ent} {i : Nat} (h : PnI c l i) (hi : l.length ≤ i) : pnO l = true := by
  have := h.ok
  rwa [List.take_of_length_le hi] at this
theorem pni_f {l : List Ent} {i : Nat} (h1 : (l.getD i Ty.ent.dflt).kind < 1 ∨ 4 < (l.getD i Ty.ent.dflt).kind) (hi : i < l.length) : pnO l = false := by
  unfold pnO
  rw [List.all_eq_false]
  refine ⟨_, getE hi, ?_⟩
  simp only [kOk, Bool.and_eq_true, decide_eq_true_eq]
  omega
theorem pnT_t {c : Cfg} {l : List Ent} (h : pnO l = true) : pnT c l = pnP c l := if_pos h
theorem pnT_f {c : Cfg} {l : List Ent} (h : pnO l = false) : pnT c l = ⟨#[]⟩ := if_neg (by rw [h]; decide)
theorem wl5 : ((wordL.length : Nat) : Int) = 5 := rfl
theorem getW {l : List Ent} {i : Nat} (h1 : 1 ≤ (l.getD i Ty.ent.dflt).kind) (h2 : (l.getD i Ty.ent.dflt).kind ≤ 4) : 0 < ByteArray.size (wordL.getD (l.getD i Ty.ent.dflt).kind.toNat Ty.str.dflt) ∧ ByteArray.size (wordL.getD (l.getD i Ty.ent.dflt).kind.toNat Ty.str.dflt) ≤ 4 := enW_size h1 h2
theorem getR {c : Cfg} {l : List Ent} {i : Nat} (hk : PnOk c l) (hi : i < l.length) (h1 : 1 ≤ (l.getD i Ty.ent.dflt).kind) (h2 : (l.getD i Ty.ent.dflt).kind ≤ 4) : (rowB (wordL.getD (l.getD i Ty.ent.dflt).kind.toNat Ty.str.dflt) [(l.getD i Ty.ent.dflt).a, (l.getD i Ty.ent.dflt).b, (l.getD i Ty.ent.dflt).c, (l.getD i Ty.ent.dflt).d]).size ≤ 90 := enR_size (hk.hl _ (getE hi)) h1 h2
def cPrint : Con where
  X := Cfg × List Ent
  args := fun x => [.agg (enc .cfg x.1), .vsl .ent x.2]
  heap := fun _ => hp0
  pre := fun x => x.2.length ≤ 10000
  res := fun x => .tup [.str (pnT x.1 x.2), .bool (pnO x.2)]
  heap' := fun _ => hp0
  pure := true
  find := fun args H => match args with
    | [.agg [.int _ a, .int _ b, .int _ c, .int _ d, .int _ e, .int _ f, .int _ g, .int _ h, .int _ i], v] => match slE H v with
      | some l => some (⟨a, b, c, d, e, f, g, h, i⟩, l)
      | none => none
    | _ => none
theorem pn_ok {c : Cfg} {l : List Ent} (ha : okAs [.agg (enc .cfg c), .vsl .ent l]) (hp : l.length ≤ 10000) : PnOk c l := by
  obtain ⟨hc, hl, -⟩ := ha
  refine ⟨⟨fun x hx => ?_⟩, fun e he => ?_, hp⟩
  · obtain ⟨h1, h2, h3, h4, h5, h6, h7, h8, h9, -⟩ := hc
    simp only [headL, List.mem_cons, List.not_mem_nil, or_false] at hx
    rcases hx with rfl | rfl | rfl | rfl | rfl | rfl | rfl | rfl | rfl
    · exact ⟨h1.1, h1.2⟩
    · exact ⟨h2.1, h2.2⟩
    · exact ⟨h3.1, h3.2⟩
    · exact ⟨h4.1, h4.2⟩
    · exact ⟨h5.1, h5.2⟩
    · exact ⟨h6.1, h6.2⟩
    · exact ⟨h7.1, h7.2⟩
    · exact ⟨h8.1, h8.2⟩
    · exact ⟨h9.1, h9.2⟩
  · obtain ⟨h1, h2, h3, h4, h5, -⟩ := hl.1.2 e he
    exact ⟨⟨h2.1, h2.2⟩, ⟨h3.1, h3.2⟩, ⟨h4.1, h4.2⟩, ⟨h5.1, h5.2⟩⟩
set_option maxRecDepth 100000 in
set_option maxHeartbeats 8000000 in
theorem cRPrint_ok : cPrint.Ok Tryd.prog 14 := by
  refine fun_ok (env_ok (Cons.cons cRRow_ok (Cons.cons cRWordP_ok Cons.nil))) mixedP Tryd.func14 (by decide) rfl cPrint [(7, 32), (2000007, 29), (4000007, 0), (4000007, 1), (4000007, 2), (4000007, 3), (4000007, 4), (4000007, 5), (4000007, 6), (4000007, 7), (4000007, 8)] (fun _ => rfl) (fun _ _ => ⟨rfl, fun id k h => by cases h⟩) (fun _ => Nat.le_of_ble_eq_true rfl) ?_
  rintro ⟨c, l⟩ hp ha hb
  replace hp : l.length ≤ 10000 := hp
  have hK := pn_ok ha hp
  clear ha hb
  all_goals (repeat' (first
    | with_reducible refine iTr ?_
    | with_reducible refine iB ?_
    | intro _
    | exact True.intro
    | (show _ ∧ _
       first
        | refine aTT ?_
        | refine aTB ?_
        | refine aT ?_
        | refine aB ?_
        | refine a11 ?_
        | refine a01 ?_
        | refine a00 ?_
        | refine a10 ?_
        | (with_reducible refine And.intro rfl ?_)
        | refine And.intro ?_ ?_)
    | with_reducible exact rfl
    | with_reducible exact HEq.rfl
    | (show (_ : Option Nat) = _; exact rfl)
    | (show (_ : Option Blk) = _; exact rfl)
    | (with_reducible show (nodupB _ && _ && _ && _ && _) = true; exact (Eq.refl true))
    | (with_reducible show (nodupB _ && _ && _ && _) = true; exact (Eq.refl true))
    | (with_reducible show (nodupB _ && _ && _) = true; exact (Eq.refl true))
    | (with_reducible show freeOk _ _ = true; exact (Eq.refl true))
    | (with_reducible show wrOk _ _ _ _ _ = true; exact (Eq.refl true))
    | (show (_ : AV) = _; exact rfl)
    | (show (_ : ByteArray) = _; with_reducible exact rfl)
    | (show (_ : Heap) = _; exact rfl)
    | (with_reducible show (_ || !_) = true; exact (Eq.refl true))
    | (with_reducible show Nat.beq _ _ = true; exact (Eq.refl true))))
  all_goals (first | (show (_ : Int) = _) | (show (_ : Bool) = _) | (show (_ : ByteArray) = _) | (show HEq _ _) | (show ∃ _ : LInv, _) | skip)
  all_goals (try (with_reducible exact rfl))
  all_goals try (refine ⟨⟨{i : Nat // PnI c l i}, fun i => [(7, AI i.1), (1, .vsl .ent l), (6, .str (pnP c (l.take i.1)))], fun i => hp0, fun i => l.length - i.1⟩, ⟨⟨0, ?_⟩, [], ?_⟩, ?_⟩; rotate_right; rintro ⟨i, hS⟩)
  all_goals (repeat' (first
    | with_reducible refine iTr ?_
    | with_reducible refine iB ?_
    | intro _
    | exact True.intro
    | (show _ ∧ _
       first
        | refine aTT ?_
        | refine aTB ?_
        | refine aT ?_
        | refine aB ?_
        | refine a11 ?_
        | refine a01 ?_
        | refine a00 ?_
        | refine a10 ?_
        | (with_reducible refine And.intro rfl ?_)
        | refine And.intro ?_ ?_)
    | with_reducible exact rfl
    | with_reducible exact HEq.rfl
    | (show (_ : Option Nat) = _; exact rfl)
    | (show (_ : Option Blk) = _; exact rfl)
    | (with_reducible show (nodupB _ && _ && _ && _ && _) = true; exact (Eq.refl true))
    | (with_reducible show (nodupB _ && _ && _ && _) = true; exact (Eq.refl true))
    | (with_reducible show (nodupB _ && _ && _) = true; exact (Eq.refl true))
    | (with_reducible show freeOk _ _ = true; exact (Eq.refl true))
    | (with_reducible show wrOk _ _ _ _ _ = true; exact (Eq.refl true))
    | (show (_ : AV) = _; exact rfl)
    | (show (_ : ByteArray) = _; with_reducible exact rfl)
    | (show (_ : Heap) = _; exact rfl)
    | (with_reducible show (_ || !_) = true; exact (Eq.refl true))
    | (with_reducible show Nat.beq _ _ = true; exact (Eq.refl true))))
  all_goals (first | (show (_ : Int) = _) | (show (_ : Bool) = _) | (show (_ : ByteArray) = _) | (show HEq _ _) | (show ∃ _ : LInv, _) | skip)
  all_goals (try (with_reducible exact rfl))
  all_goals try (refine ⟨⟨(i + 1 : Nat), ?_⟩, ?_, ?_⟩)
  all_goals (repeat' (first
    | with_reducible refine iTr ?_
    | with_reducible refine iB ?_
    | intro _
    | exact True.intro
    | (show _ ∧ _
       first
        | refine aTT ?_
        | refine aTB ?_
        | refine aT ?_
        | refine aB ?_
        | refine a11 ?_
        | refine a01 ?_
        | refine a00 ?_
        | refine a10 ?_
        | (with_reducible refine And.intro rfl ?_)
        | refine And.intro ?_ ?_)
    | with_reducible exact rfl
    | with_reducible exact HEq.rfl
    | (show (_ : Option Nat) = _; exact rfl)
    | (show (_ : Option Blk) = _; exact rfl)
    | (with_reducible show (nodupB _ && _ && _ && _ && _) = true; exact (Eq.refl true))
    | (with_reducible show (nodupB _ && _ && _ && _) = true; exact (Eq.refl true))
    | (with_reducible show (nodupB _ && _ && _) = true; exact (Eq.refl true))
    | (with_reducible show freeOk _ _ = true; exact (Eq.refl true))
    | (with_reducible show wrOk _ _ _ _ _ = true; exact (Eq.refl true))
    | (show (_ : AV) = _; exact rfl)
    | (show (_ : ByteArray) = _; with_reducible exact rfl)
    | (show (_ : Heap) = _; exact rfl)
    | (with_reducible show (_ || !_) = true; exact (Eq.refl true))
    | (with_reducible show Nat.beq _ _ = true; exact (Eq.refl true))))
  all_goals (first | (show (_ : Int) = _) | (show (_ : Bool) = _) | (show (_ : ByteArray) = _) | (show HEq _ _) | (show ∃ _ : LInv, _) | skip)
  all_goals (try (with_reducible exact rfl))
  all_goals (try dsimp only at *)
  all_goals (try replace hS : PnI c l i := hS)
  all_goals (try simp only [Int.reduceToNat, Int.toNat_natCast, cond_true, cond_false, Bool.not_true, Bool.not_false, decide_eq_true_eq, decide_eq_false_iff_not, Bool.not_eq_true', Bool.not_eq_false', bne_iff_ne, ne_eq, bne_eq_false_iff_eq, beq_iff_eq, beq_eq_false_iff_ne] at *)
  all_goals (try have hi1 := hS.le)
  all_goals (try have hsz := hS.sz)
  all_goals (try have hps := hS.pos)
  all_goals (try have hgR := getR hK (i := i) (by omega) (by omega) (by omega))
  all_goals (try have hgW := getW (l := l) (i := i) (by omega) (by omega))
  all_goals (try have hhd : (rowB { data := #[119, 111, 114, 108, 100] } [c.nodes, c.blocks, c.tokens, c.sets, c.ways, c.cap, c.wait, c.tries, c.policy]).size ≤ 195 := head_size hK.hc)
  all_goals (first
    | omega
    | exact rfl
    | exact HEq.rfl
    | decide
    | (rw [wl5]; omega)
    | (simp only [List.length_cons, List.length_nil]; omega)
    | exact hgW.1
    | exact Nat.le_trans hgW.2 (by omega)
    | exact pni_0 hK
    | exact pni_1 hK hS (by omega) (by omega) (by omega)
    | exact absurd (by assumption) (bytes_ne hps)
    | (rw [pnP_step (by omega)]; first | done | rfl)
    | (refine heq_of_eq ?_; rw [← bytesU_app, pnP_step (by omega)]; first | done | rfl)
    | (rw [pnT_t (pni_t hS (by omega)), List.take_of_length_le (by omega)]; first | done | rfl)
    | (rw [pnT_t (pni_t hS (by omega)), strU_bytes, List.take_of_length_le (by omega)]; first | done | rfl)
    | exact (pni_t hS (by omega)).symm
    | (rw [pnT_f (pni_f (by first | exact .inl (by assumption) | exact .inr (by assumption)) (by omega))]; first | done | rfl)
    | exact (pni_f (by first | exact .inl (by assumption) | exact .inr (by assumption)) (by omega)).symm
    | exact wrap_succ (by omega)
    | (simp only [ba_size, sz32, sz10, strU_bytes, bytes_len]; omega)
    | skip)
  all_goals trace_state
set_option maxRecDepth 100000 in
set_option maxHeartbeats 8000000 in
theorem cTPrint_ok : cPrint.Ok Tryd.prog 13 := by
  refine fun_ok (env_ok (Cons.cons cTRow_ok (Cons.cons cTWordP_ok (Cons.cons cWS_ok (Cons.cons cBst_ok Cons.nil))))) mixedP Tryd.func13 (by decide) rfl cPrint [(8, 16), (2000008, 13), (2000008, 15), (4000008, 0), (4000008, 1), (4000008, 2), (4000008, 3), (4000008, 4)] (fun _ => rfl) (fun _ _ => ⟨rfl, fun id k h => by cases h⟩) (fun _ => Nat.le_of_ble_eq_true rfl) ?_
  rintro ⟨c, l⟩ hp ha hb
  replace hp : l.length ≤ 10000 := hp
  have hK := pn_ok ha hp
  clear ha hb
  all_goals (repeat' (first
    | with_reducible refine iTr ?_
    | with_reducible refine iB ?_
    | intro _
    | exact True.intro
    | (show _ ∧ _
       first
        | refine aTT ?_
        | refine aTB ?_
        | refine aT ?_
        | refine aB ?_
        | refine a11 ?_
        | refine a01 ?_
        | refine a00 ?_
        | refine a10 ?_
        | (with_reducible refine And.intro rfl ?_)
        | refine And.intro ?_ ?_)
    | with_reducible exact rfl
    | with_reducible exact HEq.rfl
    | (show (_ : Option Nat) = _; exact rfl)
    | (show (_ : Option Blk) = _; exact rfl)
    | (with_reducible show (nodupB _ && _ && _ && _ && _) = true; exact (Eq.refl true))
    | (with_reducible show (nodupB _ && _ && _ && _) = true; exact (Eq.refl true))
    | (with_reducible show (nodupB _ && _ && _) = true; exact (Eq.refl true))
    | (with_reducible show freeOk _ _ = true; exact (Eq.refl true))
    | (with_reducible show wrOk _ _ _ _ _ = true; exact (Eq.refl true))
    | (show (_ : AV) = _; exact rfl)
    | (show (_ : ByteArray) = _; with_reducible exact rfl)
    | (show (_ : Heap) = _; exact rfl)
    | (with_reducible show (_ || !_) = true; exact (Eq.refl true))
    | (with_reducible show Nat.beq _ _ = true; exact (Eq.refl true))))
  all_goals (first | (show (_ : Int) = _) | (show (_ : Bool) = _) | (show (_ : ByteArray) = _) | (show HEq _ _) | (show ∃ _ : LInv, _) | skip)
  all_goals (try (with_reducible exact rfl))
  all_goals try (refine ⟨⟨{i : Nat // PnI c l i}, fun i => [(32, AI i.1), (31, AI (l.length : Nat)), (30, .vsl .ent l), (6, .ptr 0 p0)], fun i => ⟨2, [(1, some (.seq false 5 .u8 (bytesU (pnP c (l.take i.1))))), (0, some (.objT false bT [.ptr 0 p0, .slc 1]))]⟩, fun i => l.length - i.1⟩, ⟨⟨0, ?_⟩, [], ?_⟩, ?_⟩; rotate_right; rintro ⟨i, hS⟩)
  all_goals (repeat' (first
    | with_reducible refine iTr ?_
    | with_reducible refine iB ?_
    | intro _
    | exact True.intro
    | (show _ ∧ _
       first
        | refine aTT ?_
        | refine aTB ?_
        | refine aT ?_
        | refine aB ?_
        | refine a11 ?_
        | refine a01 ?_
        | refine a00 ?_
        | refine a10 ?_
        | (with_reducible refine And.intro rfl ?_)
        | refine And.intro ?_ ?_)
    | with_reducible exact rfl
    | with_reducible exact HEq.rfl
    | (show (_ : Option Nat) = _; exact rfl)
    | (show (_ : Option Blk) = _; exact rfl)
    | (with_reducible show (nodupB _ && _ && _ && _ && _) = true; exact (Eq.refl true))
    | (with_reducible show (nodupB _ && _ && _ && _) = true; exact (Eq.refl true))
    | (with_reducible show (nodupB _ && _ && _) = true; exact (Eq.refl true))
    | (with_reducible show freeOk _ _ = true; exact (Eq.refl true))
    | (with_reducible show wrOk _ _ _ _ _ = true; exact (Eq.refl true))
    | (show (_ : AV) = _; exact rfl)
    | (show (_ : ByteArray) = _; with_reducible exact rfl)
    | (show (_ : Heap) = _; exact rfl)
    | (with_reducible show (_ || !_) = true; exact (Eq.refl true))
    | (with_reducible show Nat.beq _ _ = true; exact (Eq.refl true))))
  all_goals (first | (show (_ : Int) = _) | (show (_ : Bool) = _) | (show (_ : ByteArray) = _) | (show HEq _ _) | (show ∃ _ : LInv, _) | skip)
  all_goals (try (with_reducible exact rfl))
  all_goals try (refine ⟨⟨(i + 1 : Nat), ?_⟩, ?_, ?_⟩)
  all_goals (repeat' (first
    | with_reducible refine iTr ?_
    | with_reducible refine iB ?_
    | intro _
    | exact True.intro
    | (show _ ∧ _
       first
        | refine aTT ?_
        | refine aTB ?_
        | refine aT ?_
        | refine aB ?_
        | refine a11 ?_
        | refine a01 ?_
        | refine a00 ?_
        | refine a10 ?_
        | (with_reducible refine And.intro rfl ?_)
        | refine And.intro ?_ ?_)
    | with_reducible exact rfl
    | with_reducible exact HEq.rfl
    | (show (_ : Option Nat) = _; exact rfl)
    | (show (_ : Option Blk) = _; exact rfl)
    | (with_reducible show (nodupB _ && _ && _ && _ && _) = true; exact (Eq.refl true))
    | (with_reducible show (nodupB _ && _ && _ && _) = true; exact (Eq.refl true))
    | (with_reducible show (nodupB _ && _ && _) = true; exact (Eq.refl true))
    | (with_reducible show freeOk _ _ = true; exact (Eq.refl true))
    | (with_reducible show wrOk _ _ _ _ _ = true; exact (Eq.refl true))
    | (show (_ : AV) = _; exact rfl)
    | (show (_ : ByteArray) = _; with_reducible exact rfl)
    | (show (_ : Heap) = _; exact rfl)
    | (with_reducible show (_ || !_) = true; exact (Eq.refl true))
    | (with_reducible show Nat.beq _ _ = true; exact (Eq.refl true))))
  all_goals (first | (show (_ : Int) = _) | (show (_ : Bool) = _) | (show (_ : ByteArray) = _) | (show HEq _ _) | (show ∃ _ : LInv, _) | skip)
  all_goals (try (with_reducible exact rfl))
  all_goals (try dsimp only at *)
  all_goals (try replace hS : PnI c l i := hS)
  all_goals (try simp only [Int.reduceToNat, Int.toNat_natCast, cond_true, cond_false, Bool.not_true, Bool.not_false, decide_eq_true_eq, decide_eq_false_iff_not, Bool.not_eq_true', Bool.not_eq_false', bne_iff_ne, ne_eq, bne_eq_false_iff_eq, beq_iff_eq, beq_eq_false_iff_ne] at *)
  all_goals (try have hi1 := hS.le)
  all_goals (try have hsz := hS.sz)
  all_goals (try have hps := hS.pos)
  all_goals (try have hgR := getR hK (i := i) (by omega) (by omega) (by omega))
  all_goals (try have hgW := getW (l := l) (i := i) (by omega) (by omega))
  all_goals (try have hhd : (rowB { data := #[119, 111, 114, 108, 100] } [c.nodes, c.blocks, c.tokens, c.sets, c.ways, c.cap, c.wait, c.tries, c.policy]).size ≤ 195 := head_size hK.hc)
  all_goals (first
    | omega
    | exact rfl
    | exact HEq.rfl
    | decide
    | (rw [wl5]; omega)
    | (simp only [List.length_cons, List.length_nil]; omega)
    | exact hgW.1
    | exact Nat.le_trans hgW.2 (by omega)
    | exact pni_0 hK
    | exact pni_1 hK hS (by omega) (by omega) (by omega)
    | exact absurd (by assumption) (bytes_ne hps)
    | (rw [pnP_step (by omega)]; first | done | rfl)
    | (refine heq_of_eq ?_; rw [← bytesU_app, pnP_step (by omega)]; first | done | rfl)
    | (rw [pnT_t (pni_t hS (by omega)), List.take_of_length_le (by omega)]; first | done | rfl)
    | (rw [pnT_t (pni_t hS (by omega)), strU_bytes, List.take_of_length_le (by omega)]; first | done | rfl)
    | exact (pni_t hS (by omega)).symm
    | (rw [pnT_f (pni_f (by first | exact .inl (by assumption) | exact .inr (by assumption)) (by omega))]; first | done | rfl)
    | exact (pni_f (by first | exact .inl (by assumption) | exact .inr (by assumption)) (by omega)).symm
    | exact wrap_succ (by omega)
    | (simp only [ba_size, sz32, sz10, strU_bytes, bytes_len]; omega)
    | skip)
  all_goals trace_state
end Go.Proofs.YtpkidbhpfohopaaDoor
