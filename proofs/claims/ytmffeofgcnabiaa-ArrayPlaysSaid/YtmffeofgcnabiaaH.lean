/- The stepper for any region that draws its order: what only reads is taken first (its value stands in every world that meets S), the other operations come up in every order that is let. -/
import Derived.Test.YtmffeofgcnabiaaQ
import Derived.OrdersHeld
namespace Go.Proofs.Ytmffeofgcnabiaa
set_option linter.unusedVariables false
section any
variable {P : Program} {ops : Array Oper} {Q : Exit → Act → World → Prop} {S : World → Prop} {D : List Nat}
/-- Whatever order is picked from here on; S holds behind every operation but those of D. -/
def wpAnyG (P : Program) (ops : Array Oper) (Q : Exit → Act → World → Prop) (S : World → Prop) (D : List Nat) : Nat → Array Bool → Act → World → Prop
  | 0, listed, a, w => Region.ready .any ops listed = [] ∧ Q .normal a w
  | fuel + 1, listed, a, w => (Region.ready .any ops listed = [] → Q .normal a w) ∧
    ∀ i ∈ Region.ready .any ops listed, wpOp P ops Q i (fun a' w' => (i ∉ D → S w') ∧ wpAnyG P ops Q S D fuel (listed.setIfInBounds i true) a' w') a w
theorem wpAny_of_g : ∀ (fuel : Nat) (listed : Array Bool) (a : Act) (w : World), wpAnyG P ops Q S D fuel listed a w → wpAny P .any ops Q fuel listed a w
  | 0, _, _, _, h => h
  | fuel + 1, _, _, _, h => ⟨h.1, fun i hi => wpOp_mono (fun a' w' h' => wpAny_of_g fuel _ a' w' h'.2) (h.2 i hi)⟩
/-- Operation i is awaited by each of D. -/
def awaited (ops : Array Oper) (D : List Nat) (i : Nat) : Bool := D.all fun j => match ops[j]? with
  | some o => o.after.any fun e => Region.binds .any e && e.on == i
  | none => false
theorem wpAnyG_first {i : Nat} {oi : Oper} {v : Value} (hi : ops[i]? = some oi) (hsel : ∀ (j : Nat) (o : Oper) cs b, ops[j]? = some o → o.op ≠ .select cs b) (hD : awaited ops D i = true) (hiD : i ∉ D)
    (hQ : ∀ c a w, Q (.panic c) (a.put oi.dst v) w → Q (.panic c) a w) : ∀ (fuel : Nat) (listed : Array Bool) (a : Act) (w : World),
      (∀ j oj, ops[j]? = some oj → j ≠ i → listed.getD j true = false → (∀ e ∈ oj.after, Region.binds .any e = true → e.on ≠ i) → oi.apart ops oj = true) →
      i ∈ Region.ready .any ops listed → YieldsIf P ops S oi v a → S w →
      wpAnyG P ops Q S D fuel (listed.setIfInBounds i true) (a.put oi.dst v) w → wpAnyG P ops Q S D (fuel + 1) listed a w := by
  intro fuel
  induction fuel with
  | zero =>
    intro listed a w _ hr hy hS H
    refine ⟨fun h => (by rw [h] at hr; cases hr), fun j hj => ?_⟩
    by_cases hji : j = i
    · subst hji
      exact hy.wpOp hi hS ⟨fun _ => hS, H⟩
    · have := ready_mono hj hji
      rw [H.1] at this
      cases this
  | succ fuel ih =>
    intro listed a w hfree hr hy hS H
    refine ⟨fun h => (by rw [h] at hr; cases hr), fun j hj => ?_⟩
    by_cases hji : j = i
    · subst hji
      exact hy.wpOp hi hS ⟨fun _ => hS, H⟩
    · have h1 := H.2 j (ready_mono hj hji)
      obtain ⟨hjun, oj, hoj, hall⟩ := mem_ready.1 hj
      have hnot : ∀ e ∈ oj.after, Region.binds .any e = true → e.on ≠ i := fun e he hb heq => by
        have h1 := hall e he hb
        have h0 := (mem_ready.1 hr).1
        rw [heq] at h1
        rcases Nat.lt_or_ge i listed.size with h' | h'
        · simp [h'] at h0 h1
          rw [h0] at h1
          cases h1
        · simp [Array.getElem?_eq_none h'] at h1
      have hjD : j ∉ D := fun hd => by
        have h3 := List.all_eq_true.1 hD j hd
        simp only [hoj] at h3
        obtain ⟨x, hx, he⟩ := Array.any_eq_true.1 h3
        simp only [Bool.and_eq_true, beq_iff_eq] at he
        exact hnot _ (Array.getElem_mem hx) he.1 he.2
      have h2 := wpOp_putIf hoj (hfree j oj hoj hji hjun hnot) (fun cs b => hsel i oi cs b hi) (fun cs b => hsel j oj cs b hoj) hQ hy h1
      have hfree' : ∀ k ok, ops[k]? = some ok → k ≠ i → (listed.setIfInBounds j true).getD k true = false →
          (∀ e ∈ ok.after, Region.binds .any e = true → e.on ≠ i) → oi.apart ops ok = true := fun k ok hk hki hun hno => by
        refine hfree k ok hk hki ?_ hno
        by_cases hjk : j = k
        · subst hjk
          exact hjun
        · rw [getD_set_ne true hjk] at hun
          exact hun
      refine wpOp_mono (fun a' w' h3 => ⟨h3.2.1, ih (listed.setIfInBounds j true) a' w' hfree' (ready_mono hr (Ne.symm hji)) h3.1 (h3.2.1 hjD) ?_⟩) h2
      rw [Array.setIfInBounds_comm _ _ hji]
      exact h3.2.2
theorem wpAnyG_take {i : Nat} {oi : Oper} {v : Value} {fuel : Nat} {listed : Array Bool} {a : Act} {w : World} (hi : ops[i]? = some oi)
    (hs : Region.noSelect ops = true) (hD : awaited ops D i = true) (hiD : i ∉ D) (hf : Region.free .any ops listed i = true) (hr : (Region.ready .any ops listed).contains i = true)
    (hQ : ∀ c a w, Q (.panic c) (a.put oi.dst v) w → Q (.panic c) a w) (hy : YieldsIf P ops S oi v a) (hS : S w)
    (h : wpAnyG P ops Q S D fuel (listed.setIfInBounds i true) (a.put oi.dst v) w) : wpAnyG P ops Q S D (fuel + 1) listed a w :=
  wpAnyG_first hi (Region.noSelect_spec hs) hD hiD hQ fuel listed a w (Region.free_spec hi hf) (by simpa using hr) hy hS h
theorem wpAnyG_all {rs : List Nat} {fuel : Nat} {listed : Array Bool} {a : Act} {w : World} (hr : Region.ready .any ops listed = rs) (hne : rs ≠ [])
    (h : ∀ i ∈ rs, wpOp P ops Q i (fun a' w' => (i ∉ D → S w') ∧ wpAnyG P ops Q S D fuel (listed.setIfInBounds i true) a' w') a w) : wpAnyG P ops Q S D (fuel + 1) listed a w :=
  ⟨fun h0 => absurd (hr ▸ h0) hne, hr ▸ h⟩
theorem wpAnyG_done {listed : Array Bool} {a : Act} {w : World} (hr : Region.ready .any ops listed = []) (h : Q .normal a w) : ∀ fuel, wpAnyG P ops Q S D fuel listed a w
  | 0 => ⟨hr, h⟩
  | _ + 1 => ⟨fun _ => h, by rw [hr]; simp⟩
end any
inductive Plan where
  | done
  | take (i : Nat) (p : Plan)
  | one (i : Nat) (p : Plan)
  | two (i : Nat) (p : Plan) (j : Nat) (q : Plan)
  | three (i : Nat) (p : Plan) (j : Nat) (q : Plan) (k : Nat) (r : Plan)
def callFree (ops : Array Oper) (i : Nat) : Bool := match ops[i]? with
  | some o => notCall o.op
  | none => false
/-- b: S holds (no operation of D has come up). -/
def planOk (ops : Array Oper) (D : List Nat) : Bool → Plan → Nat → Array Bool → Bool
  | _, .done, _, listed => Region.ready .any ops listed == []
  | _, .take i p, 0, _ => false
  | b, .take i p, m + 1, listed => b && awaited ops D i && !D.contains i && Region.free .any ops listed i && (Region.ready .any ops listed).contains i && callFree ops i && planOk ops D b p m (listed.setIfInBounds i true)
  | _, .one i p, 0, _ => false
  | b, .one i p, m + 1, listed => Region.ready .any ops listed == [i] && planOk ops D (b && !D.contains i) p m (listed.setIfInBounds i true)
  | _, .two i p j q, 0, _ => false
  | b, .two i p j q, m + 1, listed => Region.ready .any ops listed == [i, j] && planOk ops D (b && !D.contains i) p m (listed.setIfInBounds i true) && planOk ops D (b && !D.contains j) q m (listed.setIfInBounds j true)
  | _, .three i p j q k r, 0, _ => false
  | b, .three i p j q k r, m + 1, listed => Region.ready .any ops listed == [i, j, k] && planOk ops D (b && !D.contains i) p m (listed.setIfInBounds i true) && planOk ops D (b && !D.contains j) q m (listed.setIfInBounds j true) && planOk ops D (b && !D.contains k) r m (listed.setIfInBounds k true)
structure HS (A B : Prop) : Prop where
  held : A
  go : B
/-- An operation under its guard: A where it runs, B where it doesn't. -/
def gop (n : Nat) (ops : List Oper) (o : Oper) (f : Fr) (A B : Fr → Prop) : Prop := match o.guard with
  | none => A f
  | some (j, b) => gdst ops j fun t => lk f t fun vg => (match vg with
    | .bool g => (match b with
      | true => Br g (cond (Nat.ble n t) False (A ((t, .bool true) :: f))) (cond (Nat.ble n t) False (B ((t, .bool false) :: f)))
      | false => Br g (cond (Nat.ble n t) False (B ((t, .bool true) :: f))) (cond (Nat.ble n t) False (A ((t, .bool false) :: f))))
    | .tuple _ => B f
    | _ => False)
def hs (b : Bool) (A B : Prop) : Prop := cond b (HS A B) B
def evI (P : Program) (T : TT) (n : Nat) (S : World → Prop) (b : Bool) (ops : List Oper) (i : Nat) (f : Fr) (w : World) (K : Fr → World → Prop) : Prop := lnth ops i fun o => gop n ops o f
  (fun f' => evOp P T o f' w fun v w' => pt n f' o.dst v fun f'' => hs b (S w') (K f'' w'))
  (fun f' => pt n f' o.dst undef fun f'' => hs b (S w) (K f'' w))
def evP (P : Program) (T : TT) (n : Nat) (S : World → Prop) (D : List Nat) (ops : List Oper) (p : Plan) : Fr → World → (Fr → World → Prop) → Prop :=
  Plan.rec (motive := fun _ => Fr → World → (Fr → World → Prop) → Prop) (fun f w K => K f w)
    (fun i _ ih f w K => lnth ops i fun o => gop n ops o f
      (fun f' => evQ P T S o f' fun v => pt n f' o.dst v fun f'' => ih f'' w K)
      (fun f' => pt n f' o.dst undef fun f'' => ih f'' w K))
    (fun i _ ih f w K => evI P T n S (!D.contains i) ops i f w fun f' w' => ih f' w' K)
    (fun i _ j _ ih ih2 f w K => evI P T n S (!D.contains i) ops i f w (fun f' w' => ih f' w' K) ∧ evI P T n S (!D.contains j) ops j f w fun f' w' => ih2 f' w' K)
    (fun i _ j _ k _ ih ih2 ih3 f w K => evI P T n S (!D.contains i) ops i f w (fun f' w' => ih f' w' K) ∧ evI P T n S (!D.contains j) ops j f w (fun f' w' => ih2 f' w' K) ∧ evI P T n S (!D.contains k) ops k f w fun f' w' => ih3 f' w' K) p
section sound
variable {P : Program} {T : TT} {n : Nat} {S : World → Prop} {ops : Array Oper} {Q : Exit → Act → World → Prop}
theorem gop_sound {o : Oper} {f : Fr} {A B : Fr → Prop} (h : gop n ops.toList o f A B) {a : Act} (ha : Agr n f a) :
    (Region.wanted o (yielded ops a.tmps) = true ∧ ∃ f', Agr n f' a ∧ A f') ∨ (Region.wanted o (yielded ops a.tmps) = false ∧ ∃ f', Agr n f' a ∧ B f') := by
  unfold gop at h
  split at h
  · rename_i hg
    exact .inl ⟨by simp [Region.wanted, hg], f, ha, h⟩
  · rename_i j b hg
    obtain ⟨oj, hj, h⟩ := lnth_get h
    split at h
    · rename_i t ht
      obtain ⟨vg, hvg, h⟩ := lk_get h
      have hga := ha.get t vg hvg
      split at h
      · rename_i g
        have hy : yielded ops a.tmps j = some g := by
          have hj' : ops[j]? = some oj := by simpa using hj
          unfold yielded
          simp only [hj', Option.bind_some, ht, getD_some hga]
        have hw : Region.wanted o (yielded ops a.tmps) = (g == b) := by
          simp only [Region.wanted, hg, hy]
          simp
        have ha' : ∀ c : Bool, g = c → Agr n ((t, .bool c) :: f) a := fun c hc => ha.cons t (.bool c) (by rw [hga, hc])
        have hcut : ∀ {C : Prop}, cond (Nat.ble n t) False C → C := fun {C} hc => by
          cases hb : Nat.ble n t with
          | true => rw [hb] at hc; exact hc.elim
          | false => rw [hb] at hc; exact hc
        cases b with
        | true =>
          cases hgv : g with
          | true => exact .inl ⟨by rw [hw, hgv]; rfl, _, ha' true hgv, hcut (Br.tt h hgv)⟩
          | false => exact .inr ⟨by rw [hw, hgv]; rfl, _, ha' false hgv, hcut (Br.ff h hgv)⟩
        | false =>
          cases hgv : g with
          | true => exact .inr ⟨by rw [hw, hgv]; rfl, _, ha' true hgv, hcut (Br.tt h hgv)⟩
          | false => exact .inl ⟨by rw [hw, hgv]; rfl, _, ha' false hgv, hcut (Br.ff h hgv)⟩
      · exact .inr ⟨wanted_tuple hg hj ht hga, f, ha, h⟩
      · exact h.elim
    · exact h.elim
theorem hs_out {b : Bool} {A B : Prop} (h : hs b A B) : (b = true → A) ∧ B := by
  cases b with
  | true =>
    have h : HS A B := h
    exact ⟨fun _ => h.held, h.go⟩
  | false => exact ⟨fun e => (by cases e), h⟩
theorem evI_sound (hT : TT.ok P T = true) {D : List Nat} {i : Nat} {f : Fr} {w : World} {K : Fr → World → Prop} (h : evI P T n S (!D.contains i) ops.toList i f w K) {a : Act} (ha : Agr n f a) {N : Act → World → Prop}
    (hn : ∀ f' a' w', K f' w' → (i ∉ D → S w') → Agr n f' a' → N a' w') : wpOp P ops Q i (fun a' w' => (i ∉ D → S w') ∧ N a' w') a w := by
  obtain ⟨o, ho, h⟩ := lnth_get h
  have ho' : ops[i]? = some o := by simpa using ho
  have hD : i ∉ D → (!D.contains i) = true := fun hi => by simpa using hi
  unfold wpOp
  simp only [ho']
  rcases gop_sound h ha with ⟨hw, f', hf, h⟩ | ⟨hw, f', hf, h⟩
  · rw [if_pos hw]
    refine .inl (evOp_sound hT h hf fun v w' hk => ?_)
    obtain ⟨f'', hf'', hk⟩ := pt_sound hk hf
    have hk := hs_out hk
    exact ⟨fun hi => hk.1 (hD hi), hn _ _ _ hk.2 (fun hi => hk.1 (hD hi)) hf''⟩
  · rw [hw]
    obtain ⟨f'', hf'', hk⟩ := pt_sound h hf
    have hk := hs_out hk
    exact ⟨fun hi => hk.1 (hD hi), hn _ _ _ hk.2 (fun hi => hk.1 (hD hi)) hf''⟩
theorem evP_sound (hT : TT.ok P T = true) (hs : Region.noSelect ops = true) {D : List Nat} (hQ : ∀ c a w, ¬ Q (.panic c) a w) : ∀ (p : Plan) (m : Nat) (listed : Array Bool) {b : Bool} {f : Fr} {w : World} {K : Fr → World → Prop} {a : Act}, planOk ops D b p m listed = true → evP P T n S D ops.toList p f w K → Agr n f a → (b = true → S w) →
    (∀ f' a' w', K f' w' → Agr n f' a' → Q .normal a' w') → wpAnyG P ops Q S D m listed a w
  | .done, m, listed, b, f, w, K, a, hp, h, ha, hS, hK => wpAnyG_done (by simpa [planOk] using hp) (hK _ _ _ h ha) m
  | .take i p, 0, listed, b, f, w, K, a, hp, h, ha, hS, hK => by cases hp
  | .take i p, m + 1, listed, b, f, w, K, a, hp, h, ha, hS, hK => by
    simp only [planOk, Bool.and_eq_true] at hp
    obtain ⟨⟨⟨⟨⟨⟨h0, h5⟩, h6⟩, h1⟩, h2⟩, h3⟩, h4⟩ := hp
    have h6 : i ∉ D := by simpa using h6
    obtain ⟨o, ho, h⟩ := lnth_get h
    have ho' : ops[i]? = some o := by simpa using ho
    rcases gop_sound h ha with ⟨hw, f', hf, h⟩ | ⟨hw, f', hf, h⟩
    · obtain ⟨v, hv, hk⟩ := evQ_run hT (by simpa [callFree, ho'] using h3) h hf
      obtain ⟨f'', hf'', hk⟩ := pt_sound hk hf
      exact wpAnyG_take ho' hs h5 h6 h1 h2 (fun c a w hq => absurd hq (hQ _ _ _)) (.inl ⟨hw, hv⟩) (hS h0) (evP_sound hT hs hQ p m _ h4 hk hf'' hS hK)
    · obtain ⟨f'', hf'', hk⟩ := pt_sound h hf
      exact wpAnyG_take ho' hs h5 h6 h1 h2 (fun c a w hq => absurd hq (hQ _ _ _)) (.inr ⟨hw, rfl⟩) (hS h0) (evP_sound hT hs hQ p m _ h4 hk hf'' hS hK)
  | .one i p, 0, listed, b, f, w, K, a, hp, h, ha, hS, hK => by cases hp
  | .one i p, m + 1, listed, b, f, w, K, a, hp, h, ha, hS, hK => by
    simp only [planOk, Bool.and_eq_true] at hp
    obtain ⟨h1, h2⟩ := hp
    refine wpAnyG_all (rs := [i]) (by simpa using h1) (by simp) fun j hj => ?_
    obtain rfl := List.mem_singleton.1 hj
    exact evI_sound hT h ha fun f' a' w' hk hS' hf' => evP_sound hT hs hQ p m _ h2 hk hf' (fun hb => hS' (by simp at hb; exact hb.2)) hK
  | .two i p j q, 0, listed, b, f, w, K, a, hp, h, ha, hS, hK => by cases hp
  | .two i p j q, m + 1, listed, b, f, w, K, a, hp, h, ha, hS, hK => by
    simp only [planOk, Bool.and_eq_true] at hp
    obtain ⟨⟨h1, h2⟩, h3⟩ := hp
    refine wpAnyG_all (rs := [i, j]) (by simpa using h1) (by simp) fun x hx => ?_
    rcases List.mem_cons.1 hx with rfl | hx
    · exact evI_sound hT h.1 ha fun f' a' w' hk hS' hf' => evP_sound hT hs hQ p m _ h2 hk hf' (fun hb => hS' (by simp at hb; exact hb.2)) hK
    · obtain rfl := List.mem_singleton.1 hx
      exact evI_sound hT h.2 ha fun f' a' w' hk hS' hf' => evP_sound hT hs hQ q m _ h3 hk hf' (fun hb => hS' (by simp at hb; exact hb.2)) hK
  | .three i p j q k r, 0, listed, b, f, w, K, a, hp, h, ha, hS, hK => by cases hp
  | .three i p j q k r, m + 1, listed, b, f, w, K, a, hp, h, ha, hS, hK => by
    simp only [planOk, Bool.and_eq_true] at hp
    obtain ⟨⟨⟨h1, h2⟩, h3⟩, h4⟩ := hp
    refine wpAnyG_all (rs := [i, j, k]) (by simpa using h1) (by simp) fun x hx => ?_
    rcases List.mem_cons.1 hx with rfl | hx
    · exact evI_sound hT h.1 ha fun f' a' w' hk hS' hf' => evP_sound hT hs hQ p m _ h2 hk hf' (fun hb => hS' (by simp at hb; exact hb.2)) hK
    · rcases List.mem_cons.1 hx with rfl | hx
      · exact evI_sound hT h.2.1 ha fun f' a' w' hk hS' hf' => evP_sound hT hs hQ q m _ h3 hk hf' (fun hb => hS' (by simp at hb; exact hb.2)) hK
      · obtain rfl := List.mem_singleton.1 hx
        exact evI_sound hT h.2.2 ha fun f' a' w' hk hS' hf' => evP_sound hT hs hQ r m _ h4 hk hf' (fun hb => hS' (by simp at hb; exact hb.2)) hK
/-- A region that draws its order, by a plan; S: what holds of all worlds on the way, behind each operation but those of D. -/
theorem CW.held (S : World → Prop) (D : List Nat) (p : Plan) {id : Nat} {l : List Oper} {f : Fr} {w : World} {Q : Exit → Fr → World → Prop} (hT : TT.ok P T = true) (hm : P.follows .mixedOrders = true) (hs : Region.noSelect l.toArray = true)
    (hp : planOk l.toArray D true p l.length (Array.replicate l.length false) = true) (hS : S (w.drewN 1)) (h : evP P T n S D l p f (w.drewN 1) fun f' w' => Q .normal f' w') : CW P n (.region id l.toArray true) Q f w := ⟨fun a ha => by
  refine wp_region_any hm (wpAny_of_g (S := S) (D := D) _ _ _ _ ?_)
  have e : l.toArray.size = l.length := by simp
  rw [e]
  exact evP_sound (ops := l.toArray) hT hs (fun c a w hq => hq.1) p _ _ hp h ha (fun _ => hS) fun f' a' w' hk hf => ⟨trivial, f', hf, hk⟩⟩
theorem LdQ.of {C : World → Prop} {a : Addr} {v : Value} {K : Value → Prop} (h : ∀ w, C w → w.cell? a = some v) (k : K v) : LdQ C a K := ⟨v, h, k⟩
theorem RuQ.of {C : World → Prop} {s : Sem Value} {v : Value} {K : Value → Prop} (h : ∀ w, C w → s.run P w = .ok v w) (k : K v) : RuQ P C s K := ⟨v, h, k⟩
theorem CaQ.of {C : World → Prop} {f : FuncId} {args : Array Value} {K : Value → Prop} {w0 : World} (h0 : C w0) {v : Value} (h : ∀ w, C w → Spec P f args w fun u w' => u = v ∧ C w') (k : K v) : CaQ P C f args K := ⟨v, h, ⟨w0, h0⟩, k⟩
end sound
end Go.Proofs.Ytmffeofgcnabiaa
