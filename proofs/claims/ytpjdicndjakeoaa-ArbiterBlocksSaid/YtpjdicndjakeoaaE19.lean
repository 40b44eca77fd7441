/- The engine: calls by contract, third part. No condition. -/
import Derived.Test.YtpjdicndjakeoaaE18
namespace Go.Proofs.Ytpjdicndjakeoaa
open Go.RowKit
set_option linter.unusedVariables false
set_option linter.unusedSimpArgs false
section
variable {P : Program} {F : Nat → Prop} {φ : Nat → RS} {H : Heap} {w : World}
def φn (φ φ2 : Nat → RS) (n k : Nat) (id : Nat) : RS := if id < n then φ id else φ2 (k + (id - n))
theorem impure_ok {c : Con} {f : FuncId} (hc : c.Ok P f) (hlt : ∀ x id k, (c.heap x).get id = some k → id < (c.heap x).n) {x : c.X} {ι : List Nat} {args args1 : List AV} {H1 : Heap} {vs : List Value} (hl : lendL false (c.args x) args H = some (args1, H1))
    (hA : leAs ι args1 (c.args x)) (hH : leHn ι H1 (c.heap x) (c.heap x).n) (hb : (nodupB ι && Nat.beq ι.length (c.heap x).n && ltAll H.n ι && Nat.ble (c.heap x).n (c.heap' x).n) = true) (hpre : c.pre x) (hR : Rel F φ H w) (hv : RVs (cx F φ H w) args vs) {ρ : List Nat} {H2 : Heap}
    (hρ : ρ = ι ++ List.range' H1.n ((c.heap' x).n - (c.heap x).n)) (hH2 : H2 = putNew ρ (c.heap' x) (c.heap x).n ((c.heap' x).n - (c.heap x).n) (putOld ι ρ (c.heap x) (c.heap' x) (c.heap x).n H1)) :
    Calls P f vs.toArray w fun e w' => ∃ v, e = .returned v ∧ Post F φ H w ⟨True, True, renV ρ (c.res x), H2⟩ v w' := by
  simp only [Bool.and_eq_true] at hb
  obtain ⟨⟨⟨hnd, hlen⟩, hltA⟩, hkn⟩ := hb
  have hlen := Nat.eq_of_beq_eq_true hlen
  have hkn := Nat.le_of_ble_eq_true hkn
  obtain ⟨hR1, hle, hv1, hn1, hext⟩ := lend_ok _ _ _ _ _ vs hl hR hv
  have hltc := hlt x
  have hS := sub_ok hR1 hltc hlen hH
  have hRc := sub_rel hR1 hltc hlen hH hnd
  have hvc := leAs_ok hS hA hv1
  refine (hc.calls x hpre _ _ w vs hRc hvc).mono ?_
  rintro e w' ⟨v, rfl, φ2, hrv, hR2, hE2⟩
  refine ⟨v, rfl, ?_⟩
  simp only at hrv hR2 hE2
  generalize hHc : c.heap x = Hc at *
  generalize hHc' : c.heap' x = Hc' at *
  obtain ⟨m, hm⟩ : ∃ m, m = Hc'.n - Hc.n := ⟨_, rfl⟩
  rw [← hm] at hρ hH2
  have hρl : ρ.length = Hc'.n := by rw [hρ, List.length_append, List.length_range', hlen]; omega
  -- numbers
  have hρo : ∀ j, j < Hc.n → ρ[j]? = ι[j]? := fun j hj => by rw [hρ, List.getElem?_append_left (by omega)]
  have hρn : ∀ j id, Hc.n ≤ j → ρ[j]? = some id → id = H1.n + (j - Hc.n) ∧ j < Hc'.n := fun j id hj h => by
    have hjl := (List.getElem?_eq_some_iff.1 h).1
    rw [hρ, List.getElem?_append_right (by omega), hlen, List.getElem?_range' (by omega)] at h
    injection h with h
    exact ⟨by omega, by omega⟩
  have hιlt : ∀ j id, ι[j]? = some id → id < H1.n := fun j id h => by rw [hn1]; exact ltAll_get hltA h
  have hH2n : H2.n = H1.n + m := by rw [hH2, putNew_n, putOld_n]
  have hφ' : ∀ id j, id < Hc'.n → ρ[id]? = some j → φn φ φ2 H1.n Hc.n j = φ2 id ∧ j < H2.n := fun id j hid hj => by
    rcases Nat.lt_or_ge id Hc.n with h | h
    · rw [hρo id h] at hj
      have hj1 := hιlt _ _ hj
      have h1 : φ2 id = φc φ ι id := hE2.le.φ id h
      refine ⟨by rw [φn, if_pos hj1, h1, φc_get hj], by omega⟩
    · obtain ⟨rfl, h2⟩ := hρn id j h hj
      refine ⟨?_, by omega⟩
      rw [φn, if_neg (by omega)]
      congr 1
      omega
  -- the memory behind
  have getN : ∀ i, i < m → H2.get (H1.n + i) = renO ρ (Hc'.get (Hc.n + i)) := fun i hi => by
    rw [hH2]
    have := (putNew_get (ρ := ρ) (Hc' := Hc') (k := Hc.n) m (putOld ι ρ Hc Hc' Hc.n H1) (H1.n + i)).2 i hi (by rw [putOld_n])
    exact this
  have getO : ∀ id, id < H1.n → H2.get id = (putOld ι ρ Hc Hc' Hc.n H1).get id := fun id hid => by
    rw [hH2]
    exact (putNew_get (ρ := ρ) (Hc' := Hc') (k := Hc.n) m (putOld ι ρ Hc Hc' Hc.n H1) id).1 (by rw [putOld_n]; exact hid)
  -- each number behind: new, written, or as it was
  have cls : ∀ id k, H2.get id = some k → (∃ i k', i < m ∧ id = H1.n + i ∧ Hc'.get (Hc.n + i) = some k' ∧ k = renB ρ k') ∨
      (∃ j pb k' b, j < Hc.n ∧ Hc.get j = some pb ∧ pb.ro = false ∧ ι[j]? = some id ∧ Hc'.get j = some k' ∧ k = renB ρ k' ∧ H1.get id = some b ∧ b.ro = false ∧ id < H1.n) ∨
      (H1.get id = some k ∧ id < H1.n ∧ ¬ ∃ j pb, j < Hc.n ∧ Hc.get j = some pb ∧ pb.ro = false ∧ ι[j]? = some id) := fun id k hk => by
    by_cases hid : id < H1.n
    · rw [getO id hid] at hk
      obtain ⟨p1, p2⟩ := putOld_get (ι := ι) (ρ := ρ) (Hc := Hc) (Hc' := Hc') hnd Hc.n H1 id (by omega)
      by_cases hex : ∃ j pb, j < Hc.n ∧ Hc.get j = some pb ∧ pb.ro = false ∧ ι[j]? = some id
      · obtain ⟨j, pb, h1, h2, h3, h4⟩ := hex
        rw [p1 j pb h1 h2 h3 h4] at hk
        cases hg : Hc'.get j with
        | none => rw [hg] at hk; cases hk
        | some k' =>
          rw [hg] at hk
          simp only [renO, Option.some.injEq] at hk
          obtain ⟨id', b, g1, g2, g3⟩ := leHn_get hH j pb h1 h2
          rw [h4] at g1
          injection g1 with g1
          subst g1
          refine .inr (.inl ⟨j, pb, k', b, h1, h2, h3, h4, hg, hk.symm, g2, ?_, hid⟩)
          cases b <;> cases pb <;> first | exact g3.elim | (have g4 := g3.1; simp only [Blk.ro] at h3 ⊢; rw [h3] at g4; simpa using g4)
      · rw [p2 hex] at hk
        exact .inr (.inr ⟨hk, hid, hex⟩)
    · have hidn : id < H2.n := by
        rcases Nat.lt_or_ge id H2.n with h | h
        · exact h
        · exfalso
          have step : ∀ (i : Nat) (H : Heap) (id : Nat), H.n + i ≤ id → (putNew ρ Hc' Hc.n i H).get id = H.get id := by
            intro i
            induction i with
            | zero => intro H id _; rfl
            | succ i ih =>
              intro H id hid
              have hn := putNew_n (ρ := ρ) (Hc' := Hc') (k := Hc.n) i H
              rw [putNew]
              show lookH (((putNew ρ Hc' Hc.n i H).n, renO ρ (Hc'.get (Hc.n + i))) :: (putNew ρ Hc' Hc.n i H).l) id = _
              rw [lookH]
              have : Nat.beq (putNew ρ Hc' Hc.n i H).n id = false := by cases hb : Nat.beq (putNew ρ Hc' Hc.n i H).n id with | false => rfl | true => have := Nat.eq_of_beq_eq_true hb; omega
              rw [this]
              exact ih H id (by omega)
          rw [hH2, step m _ id (by rw [putOld_n]; omega)] at hk
          obtain ⟨p1, p2⟩ := putOld_get (ι := ι) (ρ := ρ) (Hc := Hc) (Hc' := Hc') hnd Hc.n H1 id (by omega)
          rw [p2 (fun ⟨j, pb, h1, h2, h3, h4⟩ => hid (hιlt _ _ h4))] at hk
          exact hid (hR1.lt _ _ hk)
      have hi : id - H1.n < m := by omega
      have := getN (id - H1.n) hi
      rw [show H1.n + (id - H1.n) = id from by omega, hk] at this
      cases hg : Hc'.get (Hc.n + (id - H1.n)) with
      | none => rw [hg] at this; cases this
      | some k' =>
        rw [hg] at this
        simp only [renO, Option.some.injEq] at this
        exact .inl ⟨id - H1.n, k', hi, by omega, hg, this⟩
  have roB : ∀ (k : Blk), (renB ρ k).ro = k.ro := fun k => by cases k <;> rfl
  have φold : ∀ id, id < H1.n → φn φ φ2 H1.n Hc.n id = φ id := fun id h => by rw [φn, if_pos h]
  have φnew : ∀ i, φn φ φ2 H1.n Hc.n (H1.n + i) = φ2 (Hc.n + i) := fun i => by rw [φn, if_neg (by omega)]; congr 1; omega
  have φ2c : ∀ j id, j < Hc.n → ι[j]? = some id → φ2 j = φ id := fun j id hj h => by
    have h1 : φ2 j = φc φ ι j := hE2.le.φ j hj
    rw [h1, φc_get h]
  -- a block of the contract's memory behind is one of the contract's memory ahead, or new
  have mutc : ∀ b, b < w.heap.size → Mut φ2 Hc' b → Mut φ H1 b := fun b hb h2 => by
    by_cases hm1 : Mut φ H1 b
    · exact hm1
    · exfalso
      have h3 := hE2.le.mt b hb (by
        rintro (⟨j, pb, hj, hn, he⟩ | hf | ⟨id, k, hid, -, hn, he⟩)
        · obtain ⟨id, b', g1, g2, -⟩ := leHn_get hH j pb (hltc _ _ hj) hj
          rw [φc_get g1] at hn he
          exact hm1 ⟨id, b', g2, hn, he⟩
        · obtain ⟨j, k, hj, hn, he⟩ := h2
          exact hR2.forb j k hj hn (by rw [he]; exact .inl hf)
        · exact hm1 ⟨id, k, hid, hn, he⟩)
      exact h3 (.inl h2)
  have wrc0 : ∀ b, Wr (φc φ ι) Hc b → Wr φ H1 b := fun b ⟨j, pb, hj, hro, hn, he⟩ => by
    obtain ⟨id, b', g1, g2, g3⟩ := leHn_get hH j pb (hltc _ _ hj) hj
    rw [φc_get g1] at hn he
    refine ⟨id, b', g2, ?_, hn, he⟩
    cases b' <;> cases pb <;> first | exact g3.elim | (have g4 := g3.1; simp only [Blk.ro] at hro ⊢; rw [hro] at g4; simpa using g4)
  have wrc : ∀ b, b < w.heap.size → Wr φ2 Hc' b → Wr φ H1 b := fun b hb h2 => by
    by_cases hm1 : Wr φ H1 b
    · exact hm1
    · exact absurd h2 (hE2.le.wr b hb (fun h => hm1 (wrc0 b h)))
  have mtren : ∀ b, b < w'.heap.size → ¬ (cx (Fc F φ ι H1 Hc) φ2 Hc' w').mt b → ¬ (cx F (φn φ φ2 H1.n Hc.n) H2 w').mt b := fun b hb hm' => by
    rintro (⟨id, k, hid, hn, he⟩ | hf)
    · rcases cls id k hid with ⟨i, k', h1, rfl, h3, h4⟩ | ⟨j, pb, k', b', h1, h2, h3, h4, h5, h6, h7, h8, h9⟩ | ⟨h1, h2, h3⟩
      · rw [φnew] at hn he
        exact hm' (.inl ⟨_, _, h3, hn, he⟩)
      · rw [φold id h9, ← φ2c j id h1 h4] at hn he
        exact hm' (.inl ⟨j, k', h5, hn, he⟩)
      · rw [φold id h2] at hn he
        by_cases hex : ∃ j pb, Hc.get j = some pb ∧ ι[j]? = some id
        · obtain ⟨j, pb, g1, g2⟩ := hex
          have gj := hltc _ _ g1
          have gro : pb.ro = true := by
            cases hx : pb.ro with
            | true => rfl
            | false => exact absurd ⟨j, pb, gj, g1, hx, g2⟩ h3
          have g3 := hE2.ro j pb g1 gro
          rw [← φ2c j id gj g2] at hn he
          exact hm' (.inl ⟨j, pb, g3, hn, he⟩)
        · exact hm' (.inr (.inr ⟨id, k, h1, hex, hn, he⟩))
    · exact hm' (.inr (.inl hf))
  have renR : ∀ as us, Reps (cx (Fc F φ ι H1 Hc) φ2 Hc' w') as us → Reps (cx F (φn φ φ2 H1.n Hc.n) H2 w') (as.map (ren1 ρ)) us := fun as us hr =>
    Reps.ren (C := cx (Fc F φ ι H1 Hc) φ2 Hc' w') (C' := cx F (φn φ φ2 H1.n Hc.n) H2 w') (ρ := ρ) (by simp only [cx]; omega) hφ' mtren rfl hr
  have brel : ∀ id j k', Hc'.get j = some k' → φn φ φ2 H1.n Hc.n id = φ2 j → BRel (cx F (φn φ φ2 H1.n Hc.n) H2 w') (φn φ φ2 H1.n Hc.n id) (renB ρ k') := fun id j k' hj he => by
    have hb := hR2.blk _ _ hj
    rw [he]
    cases k' with
    | obj ro cs =>
      obtain ⟨a1, us, e, a2, a3⟩ := hb
      exact ⟨a1, us, e, a2, renR _ _ a3⟩
    | seq ro e t xs =>
      obtain ⟨a1, a2, us, a3, a4⟩ := hb
      refine ⟨a1, a2, us, ?_, a4⟩
      have := renR _ _ a3
      rwa [ren_flat] at this
    | map ro t es =>
      obtain ⟨a1, vs, a2, a3⟩ := hb
      refine ⟨a1, vs, a2.imp fun e v h => ⟨h.key, h.wf, ?_⟩, a3⟩
      have h4 := h.val
      unfold RX at h4 ⊢
      by_cases ha : t.agg = true
      · rw [if_pos ha] at h4 ⊢
        obtain ⟨us, e1, h5⟩ := h4
        have := renR _ _ h5
        rw [ren_enc] at this
        exact ⟨us, e1, this⟩
      · rw [if_neg ha] at h4 ⊢
        have := renR _ _ h4
        rwa [ren_enc] at this
  -- each number behind has a place in the contract's memory, or is no place of it
  have main := Rel.gen (φ' := φn φ φ2 H1.n Hc.n) (H' := H2) (w' := w') hR1 (fun id k hk => by
      rcases cls id k hk with ⟨i, k', h1, rfl, h3, h4⟩ | ⟨j, pb, k', b', h1, h2, h3, h4, h5, h6, h7, h8, h9⟩ | ⟨h1, h2, h3⟩ <;> omega)
    (by omega) φold hE2.le.size (fun b hb hw => hE2.le.blk b hb (fun h => hw (wrc0 b h)))
    (fun b hb hm1 => by
      rintro ⟨id, k, hid, hn, he⟩
      rcases cls id k hid with ⟨i, k', h1, rfl, h3, h4⟩ | ⟨j, pb, k', b', h1, h2, h3, h4, h5, h6, h7, h8, h9⟩ | ⟨h1, h2, h3⟩
      · rw [φnew] at hn he
        exact hm1 (mutc b hb ⟨_, _, h3, hn, he⟩)
      · rw [φold id h9] at hn he
        exact hm1 ⟨id, b', h7, hn, he⟩
      · rw [φold id h2] at hn he
        exact hm1 ⟨id, k, h1, hn, he⟩)
    (fun b hb hm1 => by
      rintro ⟨id, k, hid, hro, hn, he⟩
      rcases cls id k hid with ⟨i, k', h1, rfl, h3, rfl⟩ | ⟨j, pb, k', b', h1, h2, h3, h4, h5, h6, h7, h8, h9⟩ | ⟨h1, h2, h3⟩
      · rw [φnew] at hn he
        rw [roB] at hro
        exact hm1 (wrc b hb ⟨_, _, h3, hro, hn, he⟩)
      · rw [φold id h9] at hn he
        exact hm1 ⟨id, b', h7, h8, hn, he⟩
      · rw [φold id h2] at hn he
        exact hm1 ⟨id, k, h1, hro, hn, he⟩)
    (fun id k hk hro => by
      have hid := hR1.lt _ _ hk
      rw [getO id hid]
      refine ((putOld_get (ι := ι) (ρ := ρ) (Hc := Hc) (Hc' := Hc') hnd Hc.n H1 id (by omega)).2 ?_).trans hk
      rintro ⟨j, pb, h1, h2, h3, h4⟩
      obtain ⟨id', b, g1, g2, g3⟩ := leHn_get hH j pb h1 h2
      rw [h4] at g1
      injection g1 with g1
      subst g1
      rw [hk] at g2
      injection g2 with g2
      subst g2
      cases k <;> cases pb <;> first | exact g3.elim | (have g4 := g3.1; simp only [Blk.ro] at h3 hro; rw [h3, hro] at g4; cases g4))
    (fun le id k hk => by
      rcases cls id k hk with ⟨i, k', h1, rfl, h3, rfl⟩ | ⟨j, pb, k', b', h1, h2, h3, h4, h5, rfl, h7, h8, h9⟩ | ⟨h1, h2, h3⟩
      · exact .inr (brel _ _ _ h3 (φnew i))
      · exact .inr (brel _ _ _ h5 (by rw [φold id h9, φ2c j id h1 h4]))
      · refine .inl ⟨h1, fun hn => hE2.le.blk _ ((hR1.blk _ _ h1).lt hn) ?_⟩
        rintro ⟨j, pb, hj, hro, hn', he⟩
        have hjl := hltc _ _ hj
        obtain ⟨id', b, g1, g2, -⟩ := leHn_get hH j pb hjl hj
        rw [φc_get g1] at hn' he
        have := hR1.inj _ _ _ _ g2 h1 hn' hn he
        subst this
        exact h3 ⟨j, pb, hjl, hj, hro, g1⟩)
    (fun id id' k1 k2 hid hid' hn hn' he => by
      -- a number behind that was there: what it is in the contract's memory
      have old : ∀ id k, H2.get id = some k → id < H1.n → ∃ b, H1.get id = some b := fun id k hk hlt => by
        rcases cls id k hk with ⟨i, k', h1, rfl, h3, h4⟩ | ⟨j, pb, k', b', h1, h2, h3, h4, h5, h6, h7, h8, h9⟩ | ⟨h1, h2, h3⟩
        · omega
        · exact ⟨_, h7⟩
        · exact ⟨_, h1⟩
      have cross : ∀ id k i k', H2.get id = some k → id < H1.n → Hc'.get (Hc.n + i) = some k' → (φ id).nil = false → (φ2 (Hc.n + i)).nil = false → (φ id).blk = (φ2 (Hc.n + i)).blk → False := fun id k i k' hk hlt hg hn hn' he => by
        obtain ⟨b, hb⟩ := old id k hk hlt
        by_cases hex : ∃ j pb, Hc.get j = some pb ∧ ι[j]? = some id
        · obtain ⟨j, pb, g1, g2⟩ := hex
          have gj := hltc _ _ g1
          have g3 : ∃ k3, Hc'.get j = some k3 := by
            cases hx : pb.ro with
            | true => exact ⟨_, hE2.ro j pb g1 hx⟩
            | false =>
              rcases cls id k hk with ⟨i, k', h1, rfl, h3, h4⟩ | ⟨j2, pb2, k2', b', h1, h2, h3, h4, h5, h6, h7, h8, h9⟩ | ⟨h1, h2, h3⟩
              · omega
              · have := nodupB_inj hnd g2 h4
                subst this
                exact ⟨_, h5⟩
              · exact absurd ⟨j, pb, gj, g1, hx, g2⟩ h3
          obtain ⟨k3, g3⟩ := g3
          rw [← φ2c j id gj g2] at hn he
          have := hR2.inj _ _ _ _ g3 hg hn hn' he
          omega
        · exact hR2.forb _ _ hg hn' (.inr ⟨id, b, hb, hex, hn, he⟩)
      by_cases h1 : id < H1.n <;> by_cases h2 : id' < H1.n
      · rw [φold _ h1] at hn he
        rw [φold _ h2] at hn' he
        obtain ⟨_, a1⟩ := old id k1 hid h1
        obtain ⟨_, a2⟩ := old id' k2 hid' h2
        exact hR1.inj _ _ _ _ a1 a2 hn hn' he
      · rcases cls id' k2 hid' with ⟨i, k', g1, rfl, g3, g4⟩ | ⟨j, pb, k', b', g1, g2, g3, g4, g5, g6, g7, g8, g9⟩ | ⟨g1, g2, g3⟩
        · rw [φold _ h1] at hn he
          rw [φnew] at hn' he
          exact (cross id k1 i k' hid h1 g3 hn hn' he).elim
        · exact absurd g9 h2
        · exact absurd g2 h2
      · rcases cls id k1 hid with ⟨i, k', g1, rfl, g3, g4⟩ | ⟨j, pb, k', b', g1, g2, g3, g4, g5, g6, g7, g8, g9⟩ | ⟨g1, g2, g3⟩
        · rw [φnew] at hn he
          rw [φold _ h2] at hn' he
          exact (cross id' k2 i k' hid' h2 g3 hn' hn he.symm).elim
        · exact absurd g9 h1
        · exact absurd g2 h1
      · rcases cls id k1 hid with ⟨i, k', g1, rfl, g3, g4⟩ | ⟨j, pb, k', b', g1, g2, g3, g4, g5, g6, g7, g8, g9⟩ | ⟨g1, g2, g3⟩
        · rcases cls id' k2 hid' with ⟨i2, k2', f1, rfl, f3, f4⟩ | ⟨j, pb, k', b', f1, f2, f3, f4, f5, f6, f7, f8, f9⟩ | ⟨f1, f2, f3⟩
          · rw [φnew] at hn he
            rw [φnew] at hn' he
            have := hR2.inj _ _ _ _ g3 f3 hn hn' he
            omega
          · exact absurd f9 h2
          · exact absurd f2 h2
        · exact absurd g9 h1
        · exact absurd g2 h1)
    (fun id k hk hn => by
      rcases cls id k hk with ⟨i, k', h1, rfl, h3, h4⟩ | ⟨j, pb, k', b', h1, h2, h3, h4, h5, h6, h7, h8, h9⟩ | ⟨h1, h2, h3⟩
      · rw [φnew] at hn ⊢
        exact fun hf => hR2.forb _ _ h3 hn (.inl hf)
      · rw [φold id h9] at hn ⊢
        exact hR1.forb _ _ h7 hn
      · rw [φold id h2] at hn ⊢
        exact hR1.forb _ _ h1 hn)
    hE2.os hE2.tape hE2.output
  refine ⟨φn φ φ2 H1.n Hc.n, ?_, main.1, (hext rfl).trans main.2⟩
  exact RV.ren (C := cx (Fc F φ ι H1 Hc) φ2 Hc' w') (C' := cx F (φn φ φ2 H1.n Hc.n) H2 w') (ρ := ρ) (by simp only [cx]; omega) hφ' mtren rfl hrv
/-- Any call by contract. -/
theorem con_ok {c : Con} {f : FuncId} (hc : c.Ok P f) (hlt : ∀ x id k, (c.heap x).get id = some k → id < (c.heap x).n) {args : List AV} {r : Res} (h : conD c args H = some r) (hn : r.need) {vs : List Value} (hR : Rel F φ H w) (hv : RVs (cx F φ H w) args vs) :
    r.know ∧ (∀ w, (callFunc f vs.toArray).run P w = .ok (.enter f vs.toArray) w) ∧ Calls P f vs.toArray w fun e w' => ∃ v, e = .returned v ∧ Post F φ H w r v w' := by
  unfold conD at h
  split at h
  · cases h
  · rename_i x hf
    rw [fI_eq] at h
    generalize matchI 0 (pairsAs args (c.args x)) H (c.heap x) = ι at h
    unfold conX at h
    rw [Bool.cond_eq_ite] at h
    split at h
    · rename_i hp
      split at h
      · rename_i args1 H1 hl
        injection h with h
        subst h
        obtain ⟨h1, h2, h3, h4⟩ := hn
        exact ⟨trivial, hc.enter _, pure_ok hc hlt hp hl h1 h2 h3 h4 hR hv⟩
      · cases h
    · split at h
      · rename_i args1 H1 hl
        injection h with h
        subst h
        obtain ⟨h1, h2, h3, h4⟩ := hn
        exact ⟨trivial, hc.enter _, impure_ok hc hlt hl h1 h2 h3 h4 hR hv rfl rfl⟩
      · cases h
end
end Go.Proofs.Ytpjdicndjakeoaa
