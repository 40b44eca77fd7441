/- The engine: regions that draw their order, in which memory for a variable is made beside what is written: the proof. No condition. -/
import Derived.Test.YtpjdicndjakeoaaE21b
namespace Go.Proofs.Ytpjdicndjakeoaa
open Go.RowKit
set_option linter.unusedVariables false
set_option linter.unusedSimpArgs false
section
variable {P : Program} {E : Env} {F : Nat → Prop} {φ : Nat → RS} {H : Heap} {w : World} {N : Nat} {T : Tmps} {a : Act} {φ0 : Nat → RS} {H0 : Heap} {w0 : World}
theorem allocD_get {ops : List Oper} {Hs : List Heap} {c q : Nat} (h : allocD E ops T Hs c q) : ∃ o t i Hc, ops[q]? = some o ∧ o.guard = none ∧ o.op = .alloc t ∧ E.T t = some i ∧ stAt Hs c = some Hc ∧ stAt Hs (c + 1) = some (Hc.new (.obj false i.zero)) ∧ valOf o T = .ptr Hc.n ⟨0, 0, 0, none⟩ := by
  unfold allocD at h
  split at h
  · rename_i o ho
    split at h
    · rename_i hg
      split at h
      · rename_i t hop
        split at h
        · rename_i i hT
          split at h
          · rename_i Hc hc
            split at h
            · rename_i Hk hk
              obtain ⟨h1, h2⟩ := h
              subst h1
              exact ⟨o, t, i, Hc, ho, hg, hop, hT, hc, hk, h2⟩
            · exact h.elim
          · exact h.elim
        · exact h.elim
      · exact h.elim
    · exact h.elim
  · exact h.elim
set_option maxHeartbeats 2000000 in
theorem drawA_ok (hE : E.Ok P) (hmix : P.follows .mixedOrders = true) {ops : Array Oper} {id m : Nat} {W : List Nat} {Z : List (Nat × Nat)} {q : Nat} {Q : Exit → Act → World → Prop} {K : Tmps → Heap → Prop} (h : drawA E N ops.toList m W Z q T H K) (hB : Base F φ0 H0 w0 φ H w) (hT : TRel F φ H w N T a)
    (hQ : ∀ T' H' φ' w' a', K T' H' → Base F φ0 H0 w0 φ' H' w' → TRel F φ' H' w' N T' a' → Q .normal a' w') : (Code.region id ops true).wp P Q a w := by
  obtain ⟨hfree, hwr, h⟩ := h
  simp only [Array.toArray_toList] at hfree hwr
  have hF := freeOk_spec hfree
  have hle := hF.le
  have hget : ∀ i : Nat, ops.toList[i]? = ops[i]? := fun i => by rw [Array.getElem?_toList]
  have dstA : ∀ i, dstOf ops.toList i = dstAt ops i := fun i => by
    unfold dstOf dstAt
    rw [Array.getElem?_toList]
    cases ops[i]? <;> rfl
  obtain ⟨Tf, Hf, Hsf, ⟨hc, hal, hreg⟩, agree, hlen, hst, hplain, hwrite⟩ := plan_ok (P := P) (N := N) (opsA := ops) (m := m) (W := W) hE (ops.toList.take m) 0 T H [] (by simp; omega) (fun j o hj => by
      rw [List.getElem?_take] at hj
      split at hj
      · rw [Nat.zero_add]; exact hj
      · cases hj) (fun i j t hi hj h1 h2 => hF.uniq i j t hi hj (by rw [← dstA]; exact h1) (by rw [← dstA]; exact h2)) (fun i o hi ho d hd => hF.back i o (by rw [← hget]; exact ho) d hd) rfl h
  obtain ⟨oq, tq, iq, Hc, hoq, hgq, hopq, hTq, hstc, hstk, hvq⟩ := allocD_get hal
  unfold wrOkA at hwr
  simp only [Bool.and_eq_true, List.all_eq_true, List.mem_range, Bool.or_eq_true, Bool.not_eq_true'] at hwr
  obtain ⟨⟨⟨hdst, hchain⟩, hcov⟩, ⟨hqW, hqm⟩, hqd⟩ := hwr
  have hqm : q < m := by rwa [Nat.blt_eq] at hqm
  rw [hget] at hoq
  have hdN : ∀ i t, i < m → dstOf ops.toList i = some t → t < N := fun i t hi h => by
    have := hdst i hi
    rw [dstA] at h
    rw [h] at this
    rwa [Nat.blt_eq] at this
  have hcm : cntW W q + 1 ≤ cntW W m := cntW_lt hqm hqW
  have cne : ∀ e, memN e W = true → e ≠ q → cntW W e ≠ cntW W q := fun e he hne h => hne (cntW_inj he hqW h)
  -- an operation that doesn't write, wherever it may run
  have fact : ∀ i o j, i < m → ops[i]? = some o → memN i W = false → j ≤ cntW W m → (∀ e, e < m → memN e W = true → (cntW W e < j → reach ops 6 e i = false) ∧ (¬ cntW W e < j → reach ops 6 i e = false)) → ∀ Hj, stAt (Hf :: Hsf) j = some Hj → Fact P ops m N Tf Hj o := fun i o j hi ho hW hj hp Hj hHj => by
    rcases hcov i hi with h1 | h1
    · rw [hW] at h1; cases h1
    · rcases h1 j (by omega) with (h2 | h2) | h2
      · have := Nat.eq_of_beq_eq_true h2
        subst this
        obtain ⟨Hj', g1, g2⟩ := hplain i o (Nat.zero_le _) hi (by rw [hget]; exact ho) hW
        rw [hHj] at g1
        injection g1 with g1
        subst g1
        exact g2
      · exfalso
        have : possB ops m W i j = true := by
          unfold possB
          simp only [List.all_eq_true, List.mem_range, Bool.or_eq_true, Bool.not_eq_true']
          intro e he
          cases hw : memN e W with
          | false => exact .inl rfl
          | true =>
            right
            obtain ⟨p1, p2⟩ := hp e he hw
            rw [Bool.cond_eq_ite]
            split
            · rename_i hlt; rw [p1 (by rwa [Nat.blt_eq] at hlt)]; rfl
            · rename_i hlt; rw [p2 (by rwa [Nat.blt_eq] at hlt)]; rfl
        rw [this] at h2
        cases h2
      · obtain ⟨Hj', g1, g2⟩ := checkD_get hc (memP_iff h2) (by rw [hget]; exact ho)
        rw [hHj] at g1
        injection g1 with g1
        subst g1
        exact chk_ok hE g2
  obtain ⟨hd0, hs0⟩ := hB.rel.below (Below.drew (Below.refl w.heap.size w))
  let J : (Nat → Prop) → (Nat → Value) → World → Prop := fun L vs x => (∀ i o, i < m → ops[i]? = some o → L i → ∀ k ∈ depsOf o, L k) ∧ ∃ j φ' Hj G, j ≤ cntW W m ∧ (∀ e, e < m → memN e W = true → e ≠ q → (L e ↔ cntW W e < j)) ∧ stAt (Hf :: Hsf) j = some Hj ∧
    (∀ b, b < w.heap.size → (G b ↔ F b)) ∧ Rel G φ' Hj x ∧ Ext G φ0 H0 w0 φ' Hj x ∧ Ext G φ H w φ' Hj x ∧
    (∀ i o, i < m → ops[i]? = some o → L i → (i ≠ q ∨ cntW W q < j) → RV (cx G φ' Hj x) (valOf o Tf) (vs i)) ∧
    ((G = F ∧ (L q ↔ cntW W q < j)) ∨ ∃ b zs, L q ∧ j < cntW W q ∧ G = addF F b ∧ ¬ F b ∧ w.heap.size ≤ b ∧ vs q = .pointer (some ⟨b, 0, none⟩) ∧ x.heap[b]? = some (.cells zs tq (0, 0)) ∧ ∀ C, Reps C iq.zero zs.toList)
  -- the temporaries, as far as an operation may look at them
  have temps : ∀ (G : Nat → Prop) (L : Nat → Prop) vs φ' Hj x k deps, k ≤ m → (∀ b, b < w.heap.size → (G b ↔ F b)) → Ext G φ H w φ' Hj x → (∀ d ∈ deps, d < k ∧ L d) → (∀ i o, i < m → ops[i]? = some o → i ∈ deps → L i → RV (cx G φ' Hj x) (valOf o Tf) (vs i)) → TRel G φ' Hj x N (maskT ops.toList deps Tf m) (actAt ops a vs k) := fun G L vs φ' Hj x k deps hk hG hX hd hv => by
    have hA := Inv.at_ (a := a) (vs := vs) hF k hk
    refine ⟨by rw [hA.size, hT.size], fun t => ?_, by rw [hA.defers, hT.defers]⟩
    rcases maskT_iff (ops := ops.toList) (deps := deps) (T := Tf) (t := t) m with ⟨h1, h2⟩ | ⟨-, h2⟩
    · rw [h2]
      by_cases hx : ∃ i, i < m ∧ dstOf ops.toList i = some t
      · obtain ⟨i, hi, hit⟩ := hx
        obtain ⟨hik, hLi⟩ := hd i (h1 i hi hit)
        have ho : ops[i]? = some ops[i] := Array.getElem?_eq_getElem (by omega)
        have hdst : (ops[i]).dst = some t := by
          have := hit
          rw [dstA, dstAt, ho] at this
          exact this
        have hval := hv i _ hi ho (h1 i hi hit) hLi
        rw [show valOf ops[i] Tf = lookT Tf t from by simp only [valOf, hdst]] at hval
        by_cases hts : t < a.tmps.size
        · have := hA.told i t hi hik (by rw [← dstA]; exact hit) hts
          rw [Array.getD_eq_getD_getElem?, this]
          exact hval
        · exact absurd (hdN i t hi hit) (by rw [hT.size] at hts; exact hts)
      · have ht : ∀ i, i < m → dstOf ops.toList i ≠ some t := fun i hi he => hx ⟨i, hi, he⟩
        rw [agree t fun i _ hi => ht i hi]
        have := hA.kept t fun i hi _ => by rw [← dstA]; exact ht i hi
        rw [Array.getD_eq_getD_getElem?, this, ← Array.getD_eq_getD_getElem?]
        exact ((hT.get t).mono (cx_turn fun b hb hg => (hG b hb).1 hg)).mono hX.le
    · rw [h2]; trivial
  have clos : ∀ (L : Nat → Prop) i o, (∀ i o, i < m → ops[i]? = some o → L i → ∀ k ∈ depsOf o, L k) → i < m → ops[i]? = some o → (∀ k ∈ depsOf o, L k) → ∀ f k, reach ops f i k = true → L k := fun L i o hcl hi ho hdL f k hr => by
    refine (reach_spec (L := fun k => L k ∧ k < m) (fun j o' hj' hL d hd => ⟨hcl j o' hL.2 hj' hL.1 d hd, by have := hF.back j o' hj' d hd; have := hL.2; omega⟩) f i k hr fun d hd => ?_).1
    rw [Array.getD_eq_getD_getElem?, ho] at hd
    exact ⟨hdL d hd, by have := hF.back i o ho d hd; omega⟩
  -- while nobody knows it, nothing that waits for it may run
  have early : ∀ (L : Nat → Prop) i o j, (∀ i o, i < m → ops[i]? = some o → L i → ∀ k ∈ depsOf o, L k) → i < m → ops[i]? = some o → (∀ k ∈ depsOf o, L k) → (∀ e, e < m → memN e W = true → e ≠ q → (L e ↔ cntW W e < j)) → j < cntW W q → reach ops 6 i q = true → False := fun L i o j hcl hi ho hdL hj3 hjc hr => by
    rcases hqd i hi with h1 | h1
    · rw [hr] at h1; cases h1
    · obtain ⟨f, f1, f2, f3⟩ := cntW_hit q hjc
      rcases h1 f f1 with h2 | h2
      · rw [f2] at h2; cases h2
      · have := (hj3 f (by omega) f2 (by omega)).1 (clos L i o hcl hi ho hdL 6 f h2)
        omega
  refine wp_region_ghost hmix m hfree (J := J) (fun L L' vs us x hL hu ⟨j1, j, φ', Hj, G, j2, j3, j4, jG, jR, jX0, jX, j7, j8⟩ => ?_) ?_ (fun i o L vs x hi ho hnL hdL ⟨j1, j, φ', Hj, G, j2, j3, j4, jG, jR, jX0, jX, j7, j8⟩ => ?_) (fun vs x ⟨j1, j, φ', Hj, G, j2, j3, j4, jG, jR, jX0, jX, j7, j8⟩ => ?_)
  · refine ⟨fun i o hi ho hLi k hk => ?_, j, φ', Hj, G, j2, fun e he hw hne => by rw [← hL e he]; exact j3 e he hw hne, j4, jG, jR, jX0, jX, fun i o hi ho hLi hq => ?_, ?_⟩
    · have := hF.back i o ho k hk
      exact (hL k (by omega)).1 (j1 i o hi ho ((hL i hi).2 hLi) k hk)
    · rw [hu i hi ((hL i hi).2 hLi)]
      exact j7 i o hi ho ((hL i hi).2 hLi) hq
    · rcases j8 with ⟨g1, g2⟩ | ⟨b, zs, g1, g2, g3, g4, g5, g6, g7, g8⟩
      · exact .inl ⟨g1, by rw [← hL q hqm]; exact g2⟩
      · exact .inr ⟨b, zs, (hL q hqm).1 g1, g2, g3, g4, g5, by rw [hu q hqm g1]; exact g6, g7, g8⟩
  · refine ⟨fun i o hi ho hL => hL.elim, 0, φ, H, F, Nat.zero_le _, fun e he hw _ => ⟨fun h => h.elim, fun h => absurd h (Nat.not_lt_zero _)⟩, by rw [hst 0 (Nat.le_refl _)]; rfl, fun _ _ => Iff.rfl, hd0, hB.ext.trans hs0, hs0, fun i o hi ho hL => hL.elim, .inl ⟨rfl, ⟨fun h => h.elim, fun h => absurd h (Nat.not_lt_zero _)⟩⟩⟩
  · have close2 : ∀ (i' : Nat) (o' : Oper), i' < m → ops[i']? = some o' → (L i' ∨ i' = i) → ∀ k ∈ depsOf o', L k ∨ k = i := fun i' o' hi' ho' hL k hk => by
      rcases hL with hL | rfl
      · exact .inl (j1 i' o' hi' ho' hL k hk)
      · rw [ho] at ho'
        injection ho' with ho'
        subst ho'
        exact .inl (hdL k hk)
    have hTm : TRel G φ' Hj x N (maskT ops.toList (depsOf o) Tf m) (actAt ops a vs i) := temps G L vs φ' Hj x i (depsOf o) (by omega) jG jX (fun d hd => ⟨hF.back i o ho d hd, hdL d hd⟩) fun d o' hd' ho' hdd hLd => by
      refine j7 d o' hd' ho' hLd ?_
      by_cases e : d = q
      · right
        subst e
        rcases j8 with ⟨-, g2⟩ | ⟨b, zs, g1, g2, -⟩
        · exact g2.1 hLd
        · exact (early L i o j j1 hi ho hdL j3 g2 (reach_dep ho hdd)).elim
      · exact .inl e
    by_cases hiq : i = q
    · -- memory is made
      subst hiq
      have hob : oq = o := by rw [hoq] at ho; injection ho
      subst hob
      rcases j8 with ⟨g1, g2⟩ | ⟨b, zs, g1, -⟩
      · subst g1
        have hge : ¬ cntW W i < j := fun h => hnL (g2.2 h)
        by_cases hj : j = cntW W i
        · subst hj
          obtain ⟨Ha, Hb, k1, k2, k3⟩ := hwrite i oq (Nat.zero_le _) hi (by rw [hget]; exact ho) hqW
          rw [j4] at k1
          injection k1 with k1
          subst k1
          refine (k3 G φ' x _ jR hTm).mono fun u x' ⟨φ2, p1, p2, p3⟩ => ⟨close2, cntW W i + 1, φ2, Hb, G, hcm, fun e he hw hne => ?_, k2, jG, p1, jX0.trans p2, jX.trans p2, fun i' o' hi' ho' hL _ => ?_, .inl ⟨rfl, ⟨fun _ => Nat.lt_succ_self _, fun _ => .inr rfl⟩⟩⟩
          · have := cne e hw hne
            constructor
            · rintro (h | h)
              · have := (j3 e he hw hne).1 h; omega
              · exact absurd h hne
            · intro h
              exact .inl ((j3 e he hw hne).2 (by omega))
          · by_cases e : i' = i
            · subst e
              rw [ho] at ho'
              injection ho' with ho'
              subst ho'
              show RV _ _ (if i' = i' then u else vs i')
              rw [if_pos rfl]
              exact p3
            · show RV _ _ (if i' = i then u else vs i')
              rw [if_neg e]
              exact (j7 i' o' hi' ho' (hL.resolve_right e) (.inl e)).mono p2.le
        · have hjc : j < cntW W i := by omega
          unfold Does
          rw [if_pos (by simp [Region.wanted, hgq])]
          refine alloc_run hE hTq hopq fun z hz => ?_
          have hbl : Below x.heap.size x (x.alloc (.cells z.cells tq)) := ⟨rfl, rfl, rfl, by simp, fun k hk => Below.heap_alloc x _ k hk⟩
          obtain ⟨e1, e2⟩ := rel_enter jR hbl (by simp)
          have hwx : w.heap.size ≤ x.heap.size := jX.le.size
          have hGn : ∀ b, b < w.heap.size → (addF G x.heap.size b ↔ G b) := fun b hb => ⟨fun h => h.elim (fun h => h) fun e => by omega, .inl⟩
          have hX2 : Ext (addF G x.heap.size) φ' Hj x φ' Hj (x.alloc (.cells z.cells tq)) := below_ext hbl
          have hw0 : w0.heap.size ≤ w.heap.size := hB.ext.le.size
          refine ⟨close2, j, φ', Hj, addF G x.heap.size, j2, fun e he hw hne => ?_, j4, fun b hb => (hGn b hb).trans (jG b hb), e1, (ext_turn (fun b hb => hGn b (by omega)) (fun b hb => .inl) jX0).trans hX2, (ext_turn hGn (fun b hb => .inl) jX).trans hX2, fun i' o' hi' ho' hL hor => ?_, .inr ⟨x.heap.size, z.cells, .inr rfl, hjc, rfl, fun hF' => Nat.lt_irrefl _ (jR.flt _ hF'), hwx, ?_, heap_alloc_new x _, hz⟩⟩
          · constructor
            · rintro (h | h)
              · exact (j3 e he hw hne).1 h
              · exact absurd h hne
            · exact fun h => .inl ((j3 e he hw hne).2 h)
          · have e : i' ≠ i := hor.resolve_right (by omega)
            show RV _ _ (if i' = i then _ else vs i')
            rw [if_neg e]
            exact (j7 i' o' hi' ho' (hL.resolve_right e) (.inl e)).mono e2
          · show (if i = i then _ else vs i) = _
            rw [if_pos rfl]
      · exact absurd g1 hnL
    · cases hW : memN i W with
      | false =>
        have qno : ¬ cntW W q < j → reach ops 6 i q = false := fun hlt => by
          cases hr : reach ops 6 i q with
          | false => rfl
          | true =>
            rcases j8 with ⟨-, g2⟩ | ⟨b, zs, -, g2, -⟩
            · exact absurd (g2.1 (clos L i o j1 hi ho hdL 6 q hr)) hlt
            · exact (early L i o j j1 hi ho hdL j3 g2 hr).elim
        have qyes : cntW W q < j → L q := fun hlt => by
          rcases j8 with ⟨-, g2⟩ | ⟨b, zs, g1, -⟩
          · exact g2.2 hlt
          · exact g1
        refine (fact i o j hi ho hW j2 (fun e he hw => ⟨fun hlt => ?_, fun hlt => ?_⟩) Hj j4 G φ' x _ jR hTm).mono fun u x' ⟨p1, p2⟩ => ?_
        · cases hr : reach ops 6 e i with
          | false => rfl
          | true =>
            have hLe : L e := by
              by_cases eq : e = q
              · subst eq; exact qyes hlt
              · exact (j3 e he hw eq).2 hlt
            have hoe : ops[e]? = some ops[e] := Array.getElem?_eq_getElem (by omega)
            exact absurd (clos L e _ j1 he hoe (j1 e _ he hoe hLe) 6 i hr) hnL
        · by_cases eq : e = q
          · subst eq; exact qno hlt
          · cases hr : reach ops 6 i e with
            | false => rfl
            | true => exact absurd ((j3 e he hw eq).1 (clos L i o j1 hi ho hdL 6 e hr)) hlt
        · obtain ⟨g1, g2⟩ := jR.below p2
          refine ⟨close2, j, φ', Hj, G, j2, fun e he hw hne => ?_, j4, jG, g1, jX0.trans g2, jX.trans g2, fun i' o' hi' ho' hL hor => ?_, ?_⟩
          · rw [← j3 e he hw hne]
            refine ⟨fun h => ?_, Or.inl⟩
            rcases h with h | rfl
            · exact h
            · rw [hW] at hw; cases hw
          · by_cases e : i' = i
            · subst e
              rw [ho] at ho'
              injection ho' with ho'
              subst ho'
              show RV _ _ (if i' = i' then u else vs i')
              rw [if_pos rfl]
              exact p1
            · show RV _ _ (if i' = i then u else vs i')
              rw [if_neg e]
              exact (j7 i' o' hi' ho' (hL.resolve_right e) hor).mono g2.le
          · rcases j8 with ⟨k1, k2⟩ | ⟨b, zs, k1, k2, k3, k4, k5, k6, k7, k8⟩
            · exact .inl ⟨k1, ⟨fun h => k2.1 (h.resolve_right fun e => hiq e.symm), fun h => .inl (k2.2 h)⟩⟩
            · refine .inr ⟨b, zs, .inl k1, k2, k3, k4, k5, ?_, ?_, k8⟩
              · show (if q = i then u else vs q) = _
                rw [if_neg fun e => hiq e.symm]
                exact k6
              · rw [p2.block b (Array.getElem?_eq_some_iff.1 k7).1]
                exact k7
      | true =>
        have hge : ¬ cntW W i < j := fun h => hnL ((j3 i hi hW hiq).2 h)
        have hci := cne i hW hiq
        have hj : j = cntW W i := by
          rcases Nat.lt_or_ge j (cntW W i) with h | h
          · obtain ⟨f, f1, f2, f3⟩ := cntW_hit i h
            rcases hchain i hi with (h' | h') | h'
            · rw [hW] at h'; cases h'
            · exact absurd (Nat.eq_of_beq_eq_true h') hiq
            · rcases h' f f1 with h'' | h''
              · rw [f2] at h''; cases h''
              · have hLf := clos L i o j1 hi ho hdL 6 f h''
                by_cases ef : f = q
                · subst ef
                  rcases j8 with ⟨-, g2⟩ | ⟨b, zs, -, g2, -⟩
                  · have := g2.1 hLf; omega
                  · omega
                · have := (j3 f (by omega) f2 ef).1 hLf
                  omega
          · omega
        subst hj
        obtain ⟨Ha, Hb, g1, g2, g3⟩ := hwrite i o (Nat.zero_le _) hi (by rw [hget]; exact ho) hW
        rw [j4] at g1
        injection g1 with g1
        subst g1
        have hlt := cntW_lt hi hW
        have one : ∀ e, memN e W = true → cntW W e = cntW W i → e = i := fun e he h => cntW_inj he hW h
        refine (g3 G φ' x _ jR hTm).mono fun u x' ⟨φ2, p1, p2, p3⟩ => ?_
        have vals : ∀ i' o', i' < m → ops[i']? = some o' → (L i' ∨ i' = i) → (i' ≠ q ∨ cntW W q < cntW W i) → RV (cx G φ2 Hb x') (valOf o' Tf) (if i' = i then u else vs i') := fun i' o' hi' ho' hL hor => by
          by_cases e : i' = i
          · subst e
            rw [ho] at ho'
            injection ho' with ho'
            subst ho'
            rw [if_pos rfl]
            exact p3
          · rw [if_neg e]
            exact (j7 i' o' hi' ho' (hL.resolve_right e) hor).mono p2.le
        rcases j8 with ⟨k1, k2⟩ | ⟨b, zs, k1, k2, k3, k4, k5, k6, k7, k8⟩
        · refine ⟨close2, cntW W i + 1, φ2, Hb, G, by omega, fun e he hw hne => ?_, g2, jG, p1, jX0.trans p2, jX.trans p2, fun i' o' hi' ho' hL hor => vals i' o' hi' ho' hL (hor.imp_right fun h => by omega), .inl ⟨k1, ?_⟩⟩
          · constructor
            · rintro (h | rfl)
              · have := (j3 e he hw hne).1 h; omega
              · omega
            · intro h
              by_cases h' : cntW W e < cntW W i
              · exact .inl ((j3 e he hw hne).2 h')
              · exact .inr (one e hw (by omega))
          · constructor
            · rintro (h | h)
              · have := k2.1 h; omega
              · exact absurd h.symm hiq
            · exact fun h => .inl (k2.2 (by omega))
        · -- nobody knows it yet
          subst k3
          have hbx : b < x.heap.size := (Array.getElem?_eq_some_iff.1 k7).1
          have hnm : ¬ Wr φ' Hj b := fun ⟨id, k, h1, _, h2, h3⟩ => jR.forb id k h1 h2 (by rw [h3]; exact .inr rfl)
          have hb' : x'.heap[b]? = some (.cells zs tq (0, 0)) := (p2.le.blk b hbx hnm).trans k7
          by_cases hlast : cntW W i + 1 = cntW W q
          · have hHb : Hb = Hc := by
              rw [hlast] at g2
              rw [g2] at hstc
              injection hstc
            subst hHb
            obtain ⟨r1, r2, r3, r4⟩ := rel_leave p1 k4 hb' k8
            have hw0 : w0.heap.size ≤ w.heap.size := hB.ext.le.size
            refine ⟨close2, cntW W q + 1, _, _, F, hcm, fun e he hw hne => ?_, hstk, fun _ _ => Iff.rfl, r1, ext_leave (jX0.trans p2) (by omega) p1.lt r3 r4, ext_leave (jX.trans p2) k5 p1.lt r3 r4, fun i' o' hi' ho' hL _ => ?_, .inl ⟨rfl, ⟨fun _ => Nat.lt_succ_self _, fun _ => .inl k1⟩⟩⟩
            · have := cne e hw hne
              constructor
              · rintro (h | rfl)
                · have := (j3 e he hw hne).1 h; omega
                · omega
              · intro h
                by_cases h' : cntW W e < cntW W i
                · exact .inl ((j3 e he hw hne).2 h')
                · exact .inr (one e hw (by omega))
            · by_cases e : i' = q
              · subst e
                rw [hoq] at ho'
                injection ho' with ho'
                subst ho'
                show RV _ _ (if i' = i then u else vs i')
                rw [if_neg fun e => hiq e.symm, k6, hvq]
                have := rv_ptr (C := cx F (upd φ2 Hb.n ⟨b, 0, 0, false⟩) (Hb.new (.obj false iq.zero)) x') (id := Hb.n) ⟨0, 0, 0, none⟩ (Nat.lt_succ_self _)
                simpa [cx, upd_same, Path.off, Path.inn, Path.jn] using this
              · exact (vals i' o' hi' ho' hL (.inl e)).mo r2
          · refine ⟨close2, cntW W i + 1, φ2, Hb, addF F b, by omega, fun e he hw hne => ?_, g2, jG, p1, jX0.trans p2, jX.trans p2, fun i' o' hi' ho' hL hor => vals i' o' hi' ho' hL (.inl (hor.resolve_right (by omega))), .inr ⟨b, zs, .inl k1, by omega, rfl, k4, k5, ?_, hb', k8⟩⟩
            · constructor
              · rintro (h | rfl)
                · have := (j3 e he hw hne).1 h; omega
                · omega
              · intro h
                by_cases h' : cntW W e < cntW W i
                · exact .inl ((j3 e he hw hne).2 h')
                · exact .inr (one e hw (by omega))
            · show (if q = i then u else vs q) = _
              rw [if_neg fun e => hiq e.symm]
              exact k6
  · -- all have run
    rcases j8 with ⟨g1, g2⟩ | ⟨b, zs, -, g2, -⟩
    · subst g1
      have hj : j = cntW W m := by
        rcases Nat.lt_or_ge j (cntW W m) with h | h
        · obtain ⟨f, f1, f2, f3⟩ := cntW_hit m h
          by_cases e : f = q
          · subst e; have := g2.1 f1; omega
          · have := (j3 f f1 f2 e).1 f1
            omega
        · omega
      subst hj
      have hHj : Hj = Hf := by
        rw [stAt, hlen, Nat.beq_refl] at j4
        injection j4 with j4
        exact j4.symm
      subst hHj
      have hTm : TRel G φ' Hj x N Tf (actAt ops a vs m) := by
        have := temps G (fun i => i < m) vs φ' Hj x m (List.range m) (Nat.le_refl _) (fun _ _ => Iff.rfl) jX (fun d hd => ⟨List.mem_range.1 hd, List.mem_range.1 hd⟩) (fun i o hi ho _ hL => j7 i o hi ho hL (by by_cases e : i = q; exact .inr (by omega); exact .inl e))
        refine ⟨this.size, fun t => ?_, this.defers⟩
        have h1 := this.get t
        rcases maskT_iff (ops := ops.toList) (deps := List.range m) (T := Tf) (t := t) m with ⟨-, h2⟩ | ⟨h2, -⟩
        · rw [← h2]; exact h1
        · exact absurd (fun i hi _ => List.mem_range.2 hi) h2
      exact reg_ok hE (ops.toList.drop m) Tf Hj φ' x _ K hreg ⟨jR, jX0, hB.lt0⟩ hTm hQ
    · obtain ⟨f, f1, f2, f3⟩ := cntW_hit q g2
      have := (j3 f (by omega) f2 (by omega)).1 (show f < m by omega)
      omega
end
end Go.Proofs.Ytpjdicndjakeoaa
