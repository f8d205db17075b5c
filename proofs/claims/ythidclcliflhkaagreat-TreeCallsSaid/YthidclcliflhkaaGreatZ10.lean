/- Regions that draw their order, whose head ends with a store into what it loads: the class of the worlds turns when that one operation has come up. -/
import Derived.Test.YthidclcliflhkaaGreatZ04
section
namespace Go.Proofs.YthidclcliflhkaaGreat
open Go

/-- 'j waits for i', through others. -/
def upB (md : Region.Mode) (ops : Array Oper) (i : Nat) : Nat → Nat → Bool
  | 0, _ => false
  | f + 1, j => Region.waitsFor md ops j i || (List.range j).any fun k => Region.waitsFor md ops j k && upB md ops i f k
theorem upB_listed {md : Region.Mode} {ops : Array Oper} {n i : Nat} {listed : Array Bool} (inv : HeadInv md ops n listed) : ∀ (f j : Nat), upB md ops i f j = true → listed.getD j false = true → listed.getD i false = true
  | 0, j, h, _ => by simp [upB] at h
  | f + 1, j, h, hl => by
    simp only [upB, Bool.or_eq_true, List.any_eq_true, Bool.and_eq_true] at h
    have step : ∀ k, Region.waitsFor md ops j k = true → listed.getD k false = true := fun k hk => by
      obtain ⟨oj, hoj, e, he, hb, rfl⟩ := Region.waitsFor_spec hk
      exact inv.closed j oj hoj hl e he hb
    rcases h with h | ⟨k, _, hk, hu⟩
    · exact step i h
    · exact upB_listed inv f k hu (step k hk)

section
variable {P : Program} {ops : Array Oper} {md : Region.Mode} {Q : Exit → Act → World → Prop} {S : Bool → World → Prop} {n m : Nat}
def wpAnyHM (P : Program) (md : Region.Mode) (ops : Array Oper) (Q : Exit → Act → World → Prop) (S : Bool → World → Prop) (n m : Nat) (L : Array Bool → Act → World → Prop) : Nat → Array Bool → Act → World → Prop
  | 0, listed, a, w => L listed a w
  | f + 1, listed, a, w => Region.ready md ops listed ≠ [] ∧ ∀ i ∈ Region.ready md ops listed, i < n ∧ wpOp P ops Q i (fun a' w' => S ((listed.setIfInBounds i true).getD m false) w' ∧ wpAnyHM P md ops Q S n m L f (listed.setIfInBounds i true) a' w') a w
variable {L : Array Bool → Act → World → Prop}
theorem wpAny_of_headM {g : Nat} (hL : ∀ listed a w, L listed a w → wpAny P md ops Q g listed a w) :
    ∀ (f : Nat) (listed : Array Bool) (a : Act) (w : World), wpAnyHM P md ops Q S n m L f listed a w → wpAny P md ops Q (f + g) listed a w
  | 0, listed, a, w, h => by rw [Nat.zero_add]; exact hL _ _ _ h
  | f + 1, listed, a, w, h => by
    rw [show f + 1 + g = (f + g) + 1 by omega]
    exact ⟨fun h0 => absurd h0 h.1, fun i hi => wpOp_mono (fun a' w' h' => wpAny_of_headM hL f _ a' w' h'.2) (h.2 i hi).2⟩
theorem wpAnyHM_first {T : World → Prop} {i : Nat} {oi : Oper} {v : Value} (hi : ops[i]? = some oi) (hsel : ∀ (j : Nat) (o : Oper) cs b, ops[j]? = some o → o.op ≠ .select cs b)
    (hs : Region.sinkB md ops n = true) (hc : Region.chainB md ops n = true) (hn : n < ops.size) (hin : i < n) (him : i ≠ m)
    (hdone : ∀ listed a w, L listed a w → ∀ j ∈ Region.ready md ops listed, n ≤ j)
    (hT : ∀ (listed : Array Bool) (w : World), HeadInv md ops n listed → listed.getD i true = false → S (listed.getD m false) w → T w)
    (hQ : ∀ c a w, Q (.panic c) (a.put oi.dst v) w → Q (.panic c) a w) :
    ∀ (f : Nat) (listed : Array Bool) (a : Act) (w : World), HeadInv md ops n listed →
      (∀ j oj, ops[j]? = some oj → j ≠ i → listed.getD j true = false → (∀ e ∈ oj.after, Region.binds md e = true → e.on ≠ i) → oi.apart ops oj = true) →
      i ∈ Region.ready md ops listed → YieldsIf P ops T oi v a → S (listed.getD m false) w →
      wpAnyHM P md ops Q S n m L f (listed.setIfInBounds i true) (a.put oi.dst v) w → wpAnyHM P md ops Q S n m L (f + 1) listed a w := by
  intro f
  have hmm : ∀ listed : Array Bool, (listed.setIfInBounds i true).getD m false = listed.getD m false := fun listed => getD_set_ne false him
  induction f with
  | zero =>
    intro listed a w inv _ hr hy hS H
    have hun := (mem_ready.1 hr).1
    refine ⟨fun h => (by rw [h] at hr; cases hr), fun j hj => ?_⟩
    have hjn : j < n := by
      rcases Nat.lt_or_ge j n with h | h
      · exact h
      · exact absurd hj (tail_waits hs hc hn inv _ i rfl hin hun j h)
    refine ⟨hjn, ?_⟩
    by_cases hji : j = i
    · subst hji; exact hy.wpOp hi (hT _ _ inv hun hS) ⟨by rw [hmm]; exact hS, H⟩
    · have := hdone _ _ _ H j (ready_mono hj hji)
      omega
  | succ f ih =>
    intro listed a w inv hfree hr hy hS H
    have hun := (mem_ready.1 hr).1
    refine ⟨fun h => (by rw [h] at hr; cases hr), fun j hj => ?_⟩
    have hjn : j < n := by
      rcases Nat.lt_or_ge j n with h | h
      · exact h
      · exact absurd hj (tail_waits hs hc hn inv _ i rfl hin hun j h)
    refine ⟨hjn, ?_⟩
    by_cases hji : j = i
    · subst hji; exact hy.wpOp hi (hT _ _ inv hun hS) ⟨by rw [hmm]; exact hS, H⟩
    · have h1 := (H.2 j (ready_mono hj hji)).2
      obtain ⟨hjun, oj, hoj, hall⟩ := mem_ready.1 hj
      have hnot : ∀ e ∈ oj.after, Region.binds md e = true → e.on ≠ i := fun e he hb heq => by
        have h1 := hall e he hb
        rw [heq, getD_both hun] at h1
        cases h1
      have h2 := wpOp_putIf hoj (hfree j oj hoj hji hjun hnot) (fun cs b => hsel i oi cs b hi) (fun cs b => hsel j oj cs b hoj) hQ hy h1
      have hfree' : ∀ k ok, ops[k]? = some ok → k ≠ i → (listed.setIfInBounds j true).getD k true = false →
          (∀ e ∈ ok.after, Region.binds md e = true → e.on ≠ i) → oi.apart ops ok = true := fun k ok hk hki hun hno => by
        refine hfree k ok hk hki ?_ hno
        by_cases hjk : j = k
        · subst hjk; exact hjun
        · rw [getD_set_ne true hjk] at hun; exact hun
      have hcomm : (listed.setIfInBounds i true).setIfInBounds j true = (listed.setIfInBounds j true).setIfInBounds i true := Array.setIfInBounds_comm _ _ (Ne.symm hji)
      refine wpOp_mono (fun a' w' h3 => ?_) h2
      have hS' : S ((listed.setIfInBounds j true).getD m false) w' := by
        have := h3.2.1
        rw [hcomm, hmm] at this
        exact this
      refine ⟨hS', ih (listed.setIfInBounds j true) a' w' (inv.set hj hjn) hfree' (ready_mono hr (Ne.symm hji)) h3.1 hS' ?_⟩
      rw [← hcomm]
      exact h3.2.2
end

section
variable {P : Program} {l : List Oper} {Q : Exit → Act → World → Prop} {S : Bool → World → Prop} {n m : Nat}
def MW (P : Program) (l : List Oper) (Q : Exit → Act → World → Prop) (S : Bool → World → Prop) (n m f : Nat) (listed : Array Bool) (a : Act) (w : World) : Prop :=
  headB l.toArray n = true → HeadInv .any l.toArray n listed →
    wpAnyHM P .any l.toArray Q S n m (fun listed' a' w' => Region.seqB .any l.toArray (l.length - n) n listed' = true ∧ wpList P l.toArray Q (l.drop n) a' w') f listed a w
/-- One operation taken: worldless, or under the class of the worlds ahead of the marked one. -/
theorem MW.q {T : World → Prop} (mb : Bool) {i : Nat} {oi : Oper} {f : Nat} {listed : Array Bool} {a : Act} {w : World} (hi : l[i]? = some oi)
    (hB : (decide (i < n) && decide (i ≠ m) && (Region.ready .any l.toArray listed).contains i && Region.free .any l.toArray listed i) = true)
    (hT : (∀ b w, S b w → T w) ∨ (upB .any l.toArray i l.length m = true ∧ ∀ w, S false w → T w))
    (hQ : ∀ v c a w, Q (.panic c) (a.put oi.dst v) w → Q (.panic c) a w) (hmb : (listed.getD m false == mb) = true) (hS : S mb w)
    (h : ∀ K : Act → Prop, (∀ a', MW P l Q S n m f (listed.setIfInBounds i true) a' w → K a') →
      if Region.wanted oi (yielded l.toArray a.tmps) then ∃ v, (∀ w', T w' → (execOp a.eval oi).run P w' = .ok (.value v) w') ∧ K (a.put oi.dst v) else K (a.put oi.dst undef)) : MW P l Q S n m (f + 1) listed a w := by
  have hS : S (listed.getD m false) w := by rw [eq_of_beq hmb]; exact hS
  have key : ∀ v, YieldsIf P l.toArray T oi v a → MW P l Q S n m f (listed.setIfInBounds i true) (a.put oi.dst v) w → MW P l Q S n m (f + 1) listed a w := by
    intro v hy h hb inv
    have hb' := hb
    simp only [headB, Bool.and_eq_true, decide_eq_true_eq] at hb
    obtain ⟨⟨⟨hsel, hn⟩, hs⟩, hc⟩ := hb
    simp only [Bool.and_eq_true, decide_eq_true_eq] at hB
    obtain ⟨⟨⟨hin, him⟩, hr⟩, hf⟩ := hB
    have hi' : l.toArray[i]? = some oi := by simpa using hi
    have hr' : i ∈ Region.ready .any l.toArray listed := by simpa using hr
    refine wpAnyHM_first hi' (Region.noSelect_spec hsel) hs hc hn hin him (fun _ _ _ hL => seqB_ready hL.1) (fun listed w inv hun hSl => ?_) (hQ v) f listed a w inv (Region.free_spec hi' hf) hr' hy hS (h hb' (inv.set hr' hin))
    rcases hT with hT | ⟨hup, hT⟩
    · exact hT _ _ hSl
    · cases hm : listed.getD m false with
      | false => rw [hm] at hSl; exact hT _ hSl
      | true =>
        have := upB_listed inv _ _ hup hm
        rw [getD_both hun] at this
        cases this
  have h1 := h _ (fun _ h => h)
  by_cases hw : Region.wanted oi (yielded l.toArray a.tmps) = true
  · rw [if_pos hw] at h1
    obtain ⟨v, hy, h2⟩ := h1
    exact key v (.inl ⟨hw, hy⟩) h2
  · rw [if_neg hw] at h1
    exact key undef (.inr ⟨by simpa using hw, rfl⟩) h1
theorem MW.solo (mb : Bool) {i : Nat} {oi : Oper} {f : Nat} {listed : Array Bool} {a : Act} {w : World} (hi : l[i]? = some oi) (hr : (decide (i < n) && decide (Region.ready .any l.toArray listed = [i])) = true)
    (hw : Region.wanted oi (yielded l.toArray a.tmps) = true)
    (hmb : ((listed.setIfInBounds i true).getD m false == mb) = true) (h : ∀ K : Act → World → Prop, (∀ a' w', S mb w' → MW P l Q S n m f (listed.setIfInBounds i true) a' w' → K a' w') → oi.wp P a w K Q) : MW P l Q S n m (f + 1) listed a w := by
  intro hb inv
  simp only [Bool.and_eq_true, decide_eq_true_eq] at hr
  obtain ⟨hin, hr⟩ := hr
  refine ⟨by rw [hr]; simp, fun j hj => ?_⟩
  rw [hr] at hj
  have hji : j = i := by simpa using hj
  subst hji
  have hi' : l.toArray[j]? = some oi := by simpa using hi
  refine ⟨hin, ?_⟩
  unfold wpOp
  simp only [hi', hw, if_true]
  exact .inl (h _ fun a' w' hS hh => ⟨by rw [eq_of_beq hmb]; exact hS, hh hb (inv.set (by rw [hr]; simp) hin)⟩)
theorem MW.two (mb mb2 : Bool) {i j : Nat} {oi oj : Oper} {f : Nat} {listed : Array Bool} {a : Act} {w : World} (hi : l[i]? = some oi) (hj : l[j]? = some oj) (hr : (decide (i < n) && decide (j < n) && decide (Region.ready .any l.toArray listed = [i, j])) = true)
    (hwi : Region.wanted oi (yielded l.toArray a.tmps) = true) (hwj : Region.wanted oj (yielded l.toArray a.tmps) = true)
    (hm1 : ((listed.setIfInBounds i true).getD m false == mb) = true) (hm2 : ((listed.setIfInBounds j true).getD m false == mb2) = true)
    (h1 : ∀ K : Act → World → Prop, (∀ a' w', S mb w' → MW P l Q S n m f (listed.setIfInBounds i true) a' w' → K a' w') → oi.wp P a w K Q)
    (h2 : ∀ K : Act → World → Prop, (∀ a' w', S mb2 w' → MW P l Q S n m f (listed.setIfInBounds j true) a' w' → K a' w') → oj.wp P a w K Q) : MW P l Q S n m (f + 1) listed a w := by
  intro hb inv
  simp only [Bool.and_eq_true, decide_eq_true_eq] at hr
  obtain ⟨⟨hin, hjn⟩, hr⟩ := hr
  refine ⟨by rw [hr]; simp, fun m' hm => ?_⟩
  have hm' := hm
  rw [hr] at hm
  have hi' : l.toArray[i]? = some oi := by simpa using hi
  have hj' : l.toArray[j]? = some oj := by simpa using hj
  rcases List.mem_cons.1 hm with rfl | hm
  · refine ⟨hin, ?_⟩
    unfold wpOp
    simp only [hi', hwi, if_true]
    exact .inl (h1 _ fun a' w' hS hh => ⟨by rw [eq_of_beq hm1]; exact hS, hh hb (inv.set hm' hin)⟩)
  · have hm2 : m' = j := by simpa using hm
    subst hm2
    refine ⟨hjn, ?_⟩
    unfold wpOp
    simp only [hj', hwj, if_true]
    exact .inl (h2 _ fun a' w' hS hh => ⟨by rw [eq_of_beq hm2]; exact hS, hh hb (inv.set hm' hjn)⟩)
theorem MW.done {listed : Array Bool} {a : Act} {w : World} (hB : Region.seqB .any l.toArray (l.length - n) n listed = true) (h : wpList P l.toArray Q (l.drop n) a w) : MW P l Q S n m 0 listed a w :=
  fun _ _ => ⟨hB, h⟩
theorem wp_region_mark {id : Nat} {a : Act} {w : World} (n m : Nat) (S : Bool → World → Prop) (hm : P.follows .mixedOrders = true) (hB : headB l.toArray n = true)
    (h : MW P l Q S n m n (Array.replicate l.toArray.size false) a w.drew) : (Code.region id l.toArray true).wp P Q a w := by
  have hB' := hB
  simp only [headB, Bool.and_eq_true, decide_eq_true_eq] at hB
  obtain ⟨⟨⟨_, hn⟩, _⟩, _⟩ := hB
  have hn' : n < l.length := by simpa using hn
  have inv0 : HeadInv .any l.toArray n (Array.replicate l.toArray.size false) :=
    ⟨by simp, fun j oj _ hl => (by rw [getD_replicate_false] at hl; cases hl), fun t _ ht => getD_in (by simpa using ht) (getD_replicate_false _ _)⟩
  have H := h hB' inv0
  refine wp_region_any hm ?_
  have hdl : (l.drop n).length = l.length - n := by simp
  have := wpAny_of_headM (Q := Q) (g := l.length - n) (fun listed a' w' hL => by
    have := wpAny_of_seq (md := .any) (Q' := Q) (l.drop n) n listed a' w' (fun j => by simp [List.getElem?_drop]) (by rw [hdl]; exact hL.1) hL.2
    rwa [hdl] at this) _ _ _ _ H
  rw [show n + (l.length - n) = l.toArray.size by simp; omega] at this
  exact this
end
end Go.Proofs.YthidclcliflhkaaGreat
end
