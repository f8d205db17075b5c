/- The memory's chain of a page: contract. -/
import Derived.Test.YthidclcliflhkaaGreatZ04
import Derived.Test.YthidclcliflhkaaGreatZ07
import Derived.Test.YthidclcliflhkaaGreatZ09
import Derived.Test.YthidclcliflhkaaGreatZ11
section
open Go Go.RowKit
namespace Go.Proofs.YthidclcliflhkaaGreat

theorem Fr.of_grown0 {w w1 : World} {row : Option Nat} (h : w.grownBy w1 row) : Fr row.toList w w1 := Fr.of_grown h (by rintro g rfl; simp)
theorem freeOf_row {w : World} {base : Nat} {e t : TypeId} {size n : Nat} {v : Value} {xs : List Value} (h : w.ownsRow base e size v n xs) (hne : t ≠ e) : FreeOf w v.ownBlock.toList t := by
  intro g hg cs fr he
  rcases h.2 with ⟨rfl, _⟩ | ⟨g', cap, cur, rfl, _, hh, _⟩
  · simp [Value.ownBlock] at hg
  · obtain rfl : g = g' := by simpa [Value.ownBlock] using hg
    rw [hh] at he
    injection he with he
    injection he with _ h2
    exact hne h2.symm
theorem row_ge {w : World} {base : Nat} {e : TypeId} {size n : Nat} {v : Value} {xs : List Value} (h : w.ownsRow base e size v n xs) : ∀ g ∈ v.ownBlock.toList, base ≤ g ∧ g < w.heap.size := by
  intro g hg
  exact h.lt g (by simpa using hg)
theorem row_ne {w : World} {base : Nat} {e t : TypeId} {size n g : Nat} {v : Value} {xs : List Value} {cs : Array Value} (h : w.ownsRow base e size v n xs) (hb : Blk w g t cs) (hne : t ≠ e) : g ∉ v.ownBlock.toList := by
  intro hg
  exact freeOf_row h hne g hg _ _ hb
theorem ownsRow_fr {w w1 : World} {F : List Nat} {base : Nat} {e : TypeId} {size n : Nat} {v : Value} {xs : List Value} (ho : w.ownsRow base e size v n xs) (h : Fr F w w1) (hf : ∀ g ∈ v.ownBlock.toList, g ∉ F) : w1.ownsRow base e size v n xs := by
  rcases ho with ⟨hl, h0 | ⟨g, cap, cur, rfl, hg, hh, rest⟩⟩
  · exact ⟨hl, .inl h0⟩
  · exact ⟨hl, .inr ⟨g, cap, cur, rfl, hg, h.heap hh (hf g (by simp [Value.ownBlock])), rest⟩⟩
theorem Reads.fr {w w1 : World} {F : List Nat} {B size n b : Nat} {xs : List Value} (h : Reads w B size (some ⟨b, 0, none⟩) n xs) (hw : Fr F w w1) (hb : b < w.heap.size) (hf : b ∉ F) : Reads w1 B size (some ⟨b, 0, none⟩) n xs :=
  ⟨h.1, fun hn => by
    obtain ⟨ad, e, hlt, hc⟩ := h.2 hn
    refine ⟨ad, e, hlt, fun j u hu => (World.cell?_of_block ?_).trans (hc j u hu)⟩
    rw [block_of_add]
    injection e with e
    subst e
    exact hw.block b hb hf⟩

theorem rows_apart {w : World} {base base' : Nat} {e e' : TypeId} {size n size' n' : Nat} {v v' : Value} {xs xs' : List Value} (h : w.ownsRow base e size v n xs) (h' : w.ownsRow base' e' size' v' n' xs') (hne : e ≠ e') : ∀ g ∈ v.ownBlock.toList, g ∉ v'.ownBlock.toList := by
  intro g hg hg'
  rcases h.2 with ⟨rfl, _⟩ | ⟨g1, cap, cur, rfl, _, hh, _⟩
  · simp [Value.ownBlock] at hg
  · obtain rfl : g = g1 := by simpa [Value.ownBlock] using hg
    exact freeOf_row h' hne g hg' _ _ hh
theorem slice_apart {A A' : Option Addr} {n c n' c' b N : Nat} (h : b ∉ (Value.slice A n c).ownBlock.toList) (hb : b < N) (hx : (Value.slice A' n' c').ownBlock = (Value.slice A n c).ownBlock ∨ (Value.slice A' n' c').ownBlock = some N) : b ∉ (Value.slice A' n' c').ownBlock.toList := by
  rcases hx with e | e
  · rw [e]; exact h
  · rw [e]; simp; omega
/-- The ref that comes as the j-th of a path of slots. -/
def refAt (S : List SlotV) (x0 : Rl.Ref) (p : List Nat) : Nat → Rl.Ref
  | 0 => x0
  | j + 1 => (S.getD (p.getD j 0) slot0).s.r.next
structure PathIs (S : List SlotV) (x0 : Rl.Ref) (p : List Nat) : Prop where
  at_ : ∀ j, j < p.length → ∃ (i : Nat) (hk : i < S.length), p[j]? = some i ∧ (S[i]).s.used = true ∧ refAt S x0 p j = ⟨i + 1, (S[i]).s.gen⟩ ∧ RecOk (S[i]).s.r
  end_ : refAt S x0 p p.length = ⟨0, 0⟩
theorem PathIs.next {S : List SlotV} {x0 : Rl.Ref} {p : List Nat} {i j : Nat} (hi : p[j]? = some i) (hk : i < S.length) : refAt S x0 p (j + 1) = (S[i]).s.r.next := by
  simp [refAt, List.getD_eq_getElem?_getD, hi, hk]
def recsOf (S : List SlotV) (p : List Nat) (k : Nat) : List Rl.Rec := (p.take k).map fun i => (S.getD i slot0).s.r
theorem recsOf_succ {S : List SlotV} {p : List Nat} {i j : Nat} (hi : p[j]? = some i) (hk : i < S.length) : recsOf S p (j + 1) = recsOf S p j ++ [(S[i]).s.r] := by
  rw [recsOf, List.take_add_one, hi, List.map_append, recsOf]
  simp [List.getD_eq_getElem?_getD, hk]
def refCells (S : List SlotV) (x0 : Rl.Ref) (p : List Nat) (k : Nat) : List Value := (List.range k).flatMap fun j => [.int .i64 (refAt S x0 p j).slot, .int .i64 (refAt S x0 p j).gen]
theorem refCells_succ (S : List SlotV) (x0 : Rl.Ref) (p : List Nat) (k : Nat) : refCells S x0 p (k + 1) = refCells S x0 p k ++ [.int .i64 (refAt S x0 p k).slot, .int .i64 (refAt S x0 p k).gen] := by
  rw [refCells, List.range_succ, List.flatMap_append, refCells]; simp
theorem refCells_one (S : List SlotV) (x0 : Rl.Ref) (p : List Nat) (k : Nat) : ∀ u ∈ refCells S x0 p k, u.oneCell' = true := by
  intro u hu
  simp only [refCells, List.mem_flatMap] at hu
  obtain ⟨j, _, hj⟩ := hu
  simp at hj
  rcases hj with rfl | rfl <;> rfl
/-- What a chain's walk has gathered. -/
structure Got (w0 : World) (w : World) (S : List SlotV) (x0 : Rl.Ref) (p : List Nat) (j : Nat) (A : Option Addr) (c : Nat) (B : Option Addr) (d : Nat) (C : List RecV) (bx : Nat) : Prop where
  len : C.length = j
  recs : C.map (·.r) = recsOf S p j
  own : w.ownsRow w0.heap.size 83 15 (.slice A j c) j (C.flatMap recCells)
  at_ : ∀ x ∈ C, RecAt w x.r x.rv x.ev
  refs : w.ownsRow w0.heap.size 55 2 (.slice B j d) j (refCells S x0 p j)
  box : Blk w bx 55 #[.int .i64 (refAt S x0 p j).slot, .int .i64 (refAt S x0 p j).gen]
  apart : bx ∉ (Value.slice B j d).ownBlock.toList
  ge : w0.heap.size ≤ bx
  below : Below w0.heap.size w0 w
set_option maxRecDepth 100000 in
set_option maxHeartbeats 4000000 in
theorem chain_any (b : MB) (lim : Rl.Limits) (count : Int) (S : List SlotV) (T : List Rl.Pg) (now : Int) (kk : Nat) (D : DataW Unit) (n : Nat) (p : List Nat) (w : World) (hM : MemAt w b lim count S T now kk D) (hn : n < T.length) (hT : T.length ≤ 256) (hlen : S.length ≤ 4096) (hu : T[n].used = true)
    (hP : PathIs S T[n].head p) (hlim : (p.length : Int) ≤ lim.slots) (hl2 : lim.slots ≤ 4096) :
    Calls Tryz.prog 32 #[.pointer (some ⟨b.m, 0, none⟩), .int .i64 n] w fun e w' => ∃ A c B d C bx, e = .returned (.tuple #[.slice A p.length c, .slice B p.length d, .nilIface]) ∧ Got w w' S T[n].head p p.length A c B d C bx := by
  have hlt := hM.m.lt
  have hc := fun i => hM.m.cell i
  simp only [memCells] at hc
  have HM := Lib.hid hM
  have HP := Lib.hid hP
  clear hM hP
  obtain ⟨i0, hi0, hz0, hz1, hz2⟩ := info_parts ref_info
  obtain ⟨i1, hi1, hy0, hy1, hy2⟩ := info_parts rec_info
  go_enter Tryz.func32, Tryz.ntmps32
  go_wp2_with (go_at_call 50
               refine (thead_any b.t b.p T n _ HM.out.t hn hT hu).mono ?_
               rintro e w1 ⟨rfl, hb1⟩
               have hs1 := hb1.size)
  have hx0 : Blk (w1.alloc (.cells #[.int .i64 T[n].head.slot, .int .i64 T[n].head.gen] 55)) w1.heap.size 55 #[.int .i64 T[n].head.slot, .int .i64 T[n].head.gen] := Blk.new_at rfl
  obtain ⟨bx, Hbx⟩ : ∃ bx, Hid (w1.heap.size = bx) := ⟨_, Lib.hid rfl⟩
  have hge : w.heap.size ≤ bx := by rw [← Hbx.out]; exact hb1.size
  have hbb : Below w.heap.size w (w1.alloc (.cells #[.int .i64 T[n].head.slot, .int .i64 T[n].head.gen] 55)) := (by repeat' (first | (with_reducible exact Below.refl _ _) | (with_reducible assumption) | (with_reducible refine Below.alloc ?_ ?_ _) | (with_reducible refine below_drewN ?_ _) | (with_reducible refine Below.drew ?_) | (with_reducible refine Below.setCell ?_ ?_ _) | go_size))
  rw [Hbx.out] at hx0 ⊢
  obtain ⟨W1, HW1⟩ : ∃ W1, Hid (w1.alloc (.cells #[.int .i64 T[n].head.slot, .int .i64 T[n].head.gen] 55) = W1) := ⟨_, Lib.hid rfl⟩
  rw [HW1.out] at hx0 hbb ⊢
  clear HW1 Hbx hc hb1 hs1
  go_loopw [9, 10] (fun v9 v10 wr => ∃ (j : Nat) (A : Option Addr) (c : Nat) (B : Option Addr) (d : Nat) (C : List RecV), j ≤ p.length ∧ v9 = .slice A j c ∧ v10 = .slice B j d ∧ Got w wr S T[n].head p j A c B d C bx) (fun v9 _ _ => match v9 with | .slice _ j _ => p.length - j | _ => 0)
  case atStart => exact ⟨0, none, 0, none, 0, [], Nat.zero_le _, rfl, rfl, rfl, rfl, World.ownsRow_nil _ _ _ _, by simp, World.ownsRow_nil _ _ _ _, hx0, by simp [Value.ownBlock], hge, hbb⟩
  case round =>
    obtain ⟨j, A, c, B, d, C, hj, rfl, rfl, hG⟩ := hrel
    have HG := Lib.hid hG
    clear hG
    have hcX := fun i => HG.out.box.cell i
    have hxr := HG.out.box.lt
    have hbr := HG.out.below
    have hbs := hbr.size
    have HMr := Lib.hid (HM.out.below hbr)
    have hcM := fun i => HMr.out.m.cell i
    simp only [memCells] at hcM
    have hmr := HMr.out.m.lt
    by_cases h1 : j < p.length
    · obtain ⟨i, hk, hpi, hus, hrf, hok⟩ := HP.out.at_ j h1
      have hrf' := Lib.hid hrf
      rw [hrf] at hcX
      clear hrf
      obtain ⟨gen, Hgen⟩ : ∃ g, Hid ((S[i]).s.gen = g) := ⟨_, Lib.hid rfl⟩
      rw [Hgen.out] at hcX
      have hne : ¬ ((i : Int) + 1 = 0) := by omega
      have hjs : ((j : Int) == lim.slots) = false := by simp; omega
      go_wp2_with fail
      refine via (T := ?T) (fun key => ?main) ?rest
      case main =>
        refine wp_region_head 11 (SB wr) (by kernel_rfl) (by kernel_rfl) ?_
        (refine HW.q (i := 0) rfl (by kernel_rfl) (fun _ _ _ _ h => h) ?_ ?_; (focus ((try dsimp only); exact (by repeat' (first | (with_reducible exact Below.refl _ _) | (with_reducible assumption) | (with_reducible refine Below.alloc ?_ ?_ _) | (with_reducible refine below_drewN ?_ _) | (with_reducible refine Below.drew ?_) | (with_reducible refine Below.setCell ?_ ?_ _) | go_size)))); intro K hK; go_simp; first | (refine hK _ ?_; clear hK K) | (refine ⟨_, fun _ _ => rfl, hK _ ?_⟩; clear hK K))
        (refine HW.q (i := 1) rfl (by kernel_rfl) (fun _ _ _ _ h => h) ?_ ?_; (focus ((try dsimp only); exact (by repeat' (first | (with_reducible exact Below.refl _ _) | (with_reducible assumption) | (with_reducible refine Below.alloc ?_ ?_ _) | (with_reducible refine below_drewN ?_ _) | (with_reducible refine Below.drew ?_) | (with_reducible refine Below.setCell ?_ ?_ _) | go_size)))); intro K hK; go_simp; first | (refine hK _ ?_; clear hK K) | (refine ⟨_, fun _ _ => rfl, hK _ ?_⟩; clear hK K))
        (refine HW.q (i := 2) rfl (by kernel_rfl) (fun _ _ _ _ h => h) ?_ ?_; (focus ((try dsimp only); exact (by repeat' (first | (with_reducible exact Below.refl _ _) | (with_reducible assumption) | (with_reducible refine Below.alloc ?_ ?_ _) | (with_reducible refine below_drewN ?_ _) | (with_reducible refine Below.drew ?_) | (with_reducible refine Below.setCell ?_ ?_ _) | go_size)))); intro K hK; go_simp; first | (refine hK _ ?_; clear hK K) | (refine ⟨_, fun _ _ => rfl, hK _ ?_⟩; clear hK K))
        (refine HW.q (i := 3) rfl (by kernel_rfl) (fun _ _ _ _ h => h) ?_ ?_; (focus ((try dsimp only); exact (by repeat' (first | (with_reducible exact Below.refl _ _) | (with_reducible assumption) | (with_reducible refine Below.alloc ?_ ?_ _) | (with_reducible refine below_drewN ?_ _) | (with_reducible refine Below.drew ?_) | (with_reducible refine Below.setCell ?_ ?_ _) | go_size)))); intro K hK; go_simp; apply Exists.intro; refine ⟨fun w2 hw2 => ?_, hK _ ?_⟩; (focus (obtain ⟨hc2, hf2⟩ := bcell hw2; go_simp; first | done | rfl)); clear hK K)
        (refine HW.q (i := 4) rfl (by kernel_rfl) (fun _ _ _ _ h => h) ?_ ?_; (focus ((try dsimp only); exact (by repeat' (first | (with_reducible exact Below.refl _ _) | (with_reducible assumption) | (with_reducible refine Below.alloc ?_ ?_ _) | (with_reducible refine below_drewN ?_ _) | (with_reducible refine Below.drew ?_) | (with_reducible refine Below.setCell ?_ ?_ _) | go_size)))); intro K hK; go_simp; apply Exists.intro; refine ⟨fun w2 hw2 => ?_, hK _ ?_⟩; (focus (obtain ⟨hc2, hf2⟩ := bcell hw2; go_simp; first | done | rfl)); clear hK K)
        refine HW.two (i := 5) (j := 9) rfl rfl (by kernel_rfl) (by kernel_rfl) (by kernel_rfl) ?_ ?_
        · intro K hK
          go_simp
          go_at_call 51
          refine (aload_any b.a b.s S lim.count i gen _ (HMr.out.below (by repeat' (first | (with_reducible exact Below.refl _ _) | (with_reducible assumption) | (with_reducible refine Below.alloc ?_ ?_ _) | (with_reducible refine below_drewN ?_ _) | (with_reducible refine Below.drew ?_) | (with_reducible refine Below.setCell ?_ ?_ _) | go_size))).a hk hlen hus Hgen.out hok).mono ?_
          rintro e w2 ⟨rv1, ev1, rfl, ⟨A1, c1, rfl, hle1, ho1⟩, ⟨A2, c2, rfl, hle2, ho2⟩, hb2⟩
          have hb2 : Below wr.heap.size wr w2 := ⟨hb2.os, hb2.tape, hb2.output, hb2.size, hb2.block⟩
          have hs2 := hb2.size
          refine hK _ _ hb2 ?_
          clear hK K
          simp only [recVal]
          (refine HW.q (i := 6) rfl (by kernel_rfl) (fun _ _ _ _ h => h) ?_ ?_; (focus ((try dsimp only); exact (by repeat' (first | (with_reducible exact Below.refl _ _) | (with_reducible assumption) | (with_reducible refine Below.alloc ?_ ?_ _) | (with_reducible refine below_drewN ?_ _) | (with_reducible refine Below.drew ?_) | (with_reducible refine Below.setCell ?_ ?_ _) | go_size)))); intro K hK; go_simp; first | (refine hK _ ?_; clear hK K) | (refine ⟨_, fun _ _ => rfl, hK _ ?_⟩; clear hK K))
          (refine HW.q (i := 7) rfl (by kernel_rfl) (fun _ _ _ _ h => h) ?_ ?_; (focus ((try dsimp only); exact (by repeat' (first | (with_reducible exact Below.refl _ _) | (with_reducible assumption) | (with_reducible refine Below.alloc ?_ ?_ _) | (with_reducible refine below_drewN ?_ _) | (with_reducible refine Below.drew ?_) | (with_reducible refine Below.setCell ?_ ?_ _) | go_size)))); intro K hK; go_simp; first | (refine hK _ ?_; clear hK K) | (refine ⟨_, fun _ _ => rfl, hK _ ?_⟩; clear hK K))
          (refine HW.q (i := 8) rfl (by kernel_rfl) (fun _ _ _ _ h => h) ?_ ?_; (focus ((try dsimp only); exact (by repeat' (first | (with_reducible exact Below.refl _ _) | (with_reducible assumption) | (with_reducible refine Below.alloc ?_ ?_ _) | (with_reducible refine below_drewN ?_ _) | (with_reducible refine Below.drew ?_) | (with_reducible refine Below.setCell ?_ ?_ _) | go_size)))); intro K hK; go_simp; first | (refine hK _ ?_; clear hK K) | (refine ⟨_, fun _ _ => rfl, hK _ ?_⟩; clear hK K))
          refine HW.solo (i := 9) rfl (by kernel_rfl) (by kernel_rfl) ?_
          intro K hK
          go_simp
          refine hK _ _ (by repeat' (first | (with_reducible exact Below.refl _ _) | (with_reducible assumption) | (with_reducible refine Below.alloc ?_ ?_ _) | (with_reducible refine below_drewN ?_ _) | (with_reducible refine Below.drew ?_) | (with_reducible refine Below.setCell ?_ ?_ _) | go_size)) ?_
          clear hK K
          obtain ⟨W, HW⟩ : ∃ W, Hid (w2.alloc (.cells #[.int .i64 0, .string ⟨#[]⟩, .string ⟨#[]⟩, .bool false, .int .i64 0, .slice none 0 0, .slice none 0 0, .string ⟨#[]⟩, .string ⟨#[]⟩, .int .i64 0, .int .i64 0, .int .i64 0, .string ⟨#[]⟩, .int .i64 0, .int .i64 0] 83) = W) := ⟨_, Lib.hid rfl⟩
          obtain ⟨b11, Hb11⟩ : ∃ b, Hid (w2.heap.size = b) := ⟨_, Lib.hid rfl⟩
          have hbW : Below wr.heap.size wr W := by rw [← HW.out]; exact (by repeat' (first | (with_reducible exact Below.refl _ _) | (with_reducible assumption) | (with_reducible refine Below.alloc ?_ ?_ _) | (with_reducible refine below_drewN ?_ _) | (with_reducible refine Below.drew ?_) | (with_reducible refine Below.setCell ?_ ?_ _) | go_size))
          have hYW : Hid (Blk W b11 83 zeroRec) := Lib.hid (by rw [← HW.out, ← Hb11.out]; exact Blk.new_at rfl)
          have hb11 : wr.heap.size ≤ b11 := by rw [← Hb11.out]; exact hs2
          have HO1 : Hid (W.ownsRow 0 50 2 (.slice A1 (S[i]).s.r.rows.length c1) (S[i]).s.r.rows.length (rowCells (S[i]).s.r.rows)) := Lib.hid (by rw [← HW.out]; exact ownsRow_base (ownsRow_keep ho1 ((Below.refl _ _).alloc (Nat.le_refl _) (.cells zeroRec 83))) (Nat.zero_le _))
          have HO2 : Hid (W.ownsRow 0 132 2 (.slice A2 (S[i]).s.r.entries.length c2) (S[i]).s.r.entries.length (entCells (S[i]).s.r.entries)) := Lib.hid (by rw [← HW.out]; exact ownsRow_base (ownsRow_keep ho2 ((Below.refl _ _).alloc (Nat.le_refl _) (.cells zeroRec 83))) (Nat.zero_le _))
          rw [HW.out, Hb11.out]
          clear HW Hb11 ho1 ho2 hb2 hs2
          refine HW.lst #[true, true, true, true, true, true, true, true, true, true, false, false] (by kernel_rfl) ?_
          have HZ := Lib.hid (And.intro hb11 (And.intro hbW (And.intro hYW.out (And.intro HO1.out (And.intro HO2.out (And.intro hle1 hle2))))))
          clear hb11 hbW hYW HO1 HO2
          clear hle1 hle2
          revert HZ
          revert b11
          revert W
          revert c2
          revert A2
          revert c1
          revert A1
          exact key.out
        · intro K hK
          go_simp
          refine hK _ _ (by repeat' (first | (with_reducible exact Below.refl _ _) | (with_reducible assumption) | (with_reducible refine Below.alloc ?_ ?_ _) | (with_reducible refine below_drewN ?_ _) | (with_reducible refine Below.drew ?_) | (with_reducible refine Below.setCell ?_ ?_ _) | go_size)) ?_
          clear hK K
          refine HW.solo (i := 5) rfl (by kernel_rfl) (by kernel_rfl) ?_
          intro K hK
          go_simp
          go_at_call 51
          refine (aload_any b.a b.s S lim.count i gen _ (HMr.out.below (by repeat' (first | (with_reducible exact Below.refl _ _) | (with_reducible assumption) | (with_reducible refine Below.alloc ?_ ?_ _) | (with_reducible refine below_drewN ?_ _) | (with_reducible refine Below.drew ?_) | (with_reducible refine Below.setCell ?_ ?_ _) | go_size))).a hk hlen hus Hgen.out hok).mono ?_
          rintro e w2 ⟨rv1, ev1, rfl, ⟨A1, c1, rfl, hle1, ho1⟩, ⟨A2, c2, rfl, hle2, ho2⟩, hb2⟩
          have h0 : Blk (wr.drew.alloc (.cells zeroRec 83)) wr.heap.size 83 zeroRec := Blk.new_at (X := wr.drew) (b := wr.heap.size) rfl
          have hY0 := h0.below hb2 h0.lt
          have hb2 : Below wr.heap.size wr w2 := below_to (by repeat' (first | (with_reducible exact Below.refl _ _) | (with_reducible assumption) | (with_reducible refine Below.alloc ?_ ?_ _) | (with_reducible refine below_drewN ?_ _) | (with_reducible refine Below.drew ?_) | (with_reducible refine Below.setCell ?_ ?_ _) | go_size)) hb2
          have hs2 := hb2.size
          refine hK _ _ hb2 ?_
          clear hK K
          simp only [recVal]
          (refine HW.q (i := 6) rfl (by kernel_rfl) (fun _ _ _ _ h => h) ?_ ?_; (focus ((try dsimp only); exact (by repeat' (first | (with_reducible exact Below.refl _ _) | (with_reducible assumption) | (with_reducible refine Below.alloc ?_ ?_ _) | (with_reducible refine below_drewN ?_ _) | (with_reducible refine Below.drew ?_) | (with_reducible refine Below.setCell ?_ ?_ _) | go_size)))); intro K hK; go_simp; first | (refine hK _ ?_; clear hK K) | (refine ⟨_, fun _ _ => rfl, hK _ ?_⟩; clear hK K))
          (refine HW.q (i := 7) rfl (by kernel_rfl) (fun _ _ _ _ h => h) ?_ ?_; (focus ((try dsimp only); exact (by repeat' (first | (with_reducible exact Below.refl _ _) | (with_reducible assumption) | (with_reducible refine Below.alloc ?_ ?_ _) | (with_reducible refine below_drewN ?_ _) | (with_reducible refine Below.drew ?_) | (with_reducible refine Below.setCell ?_ ?_ _) | go_size)))); intro K hK; go_simp; first | (refine hK _ ?_; clear hK K) | (refine ⟨_, fun _ _ => rfl, hK _ ?_⟩; clear hK K))
          (refine HW.q (i := 8) rfl (by kernel_rfl) (fun _ _ _ _ h => h) ?_ ?_; (focus ((try dsimp only); exact (by repeat' (first | (with_reducible exact Below.refl _ _) | (with_reducible assumption) | (with_reducible refine Below.alloc ?_ ?_ _) | (with_reducible refine below_drewN ?_ _) | (with_reducible refine Below.drew ?_) | (with_reducible refine Below.setCell ?_ ?_ _) | go_size)))); intro K hK; go_simp; first | (refine hK _ ?_; clear hK K) | (refine ⟨_, fun _ _ => rfl, hK _ ?_⟩; clear hK K))
          obtain ⟨W, HW⟩ : ∃ W, Hid (w2 = W) := ⟨_, Lib.hid rfl⟩
          obtain ⟨b11, Hb11⟩ : ∃ b, Hid (wr.heap.size = b) := ⟨_, Lib.hid rfl⟩
          have hbW : Below wr.heap.size wr W := by rw [← HW.out]; exact hb2
          have hYW : Hid (Blk W b11 83 zeroRec) := Lib.hid (by rw [← HW.out, ← Hb11.out]; exact hY0)
          have hb11 : wr.heap.size ≤ b11 := by rw [← Hb11.out]; exact Nat.le_refl _
          have HO1 : Hid (W.ownsRow 0 50 2 (.slice A1 (S[i]).s.r.rows.length c1) (S[i]).s.r.rows.length (rowCells (S[i]).s.r.rows)) := Lib.hid (by rw [← HW.out]; exact ownsRow_base ho1 (Nat.zero_le _))
          have HO2 : Hid (W.ownsRow 0 132 2 (.slice A2 (S[i]).s.r.entries.length c2) (S[i]).s.r.entries.length (entCells (S[i]).s.r.entries)) := Lib.hid (by rw [← HW.out]; exact ownsRow_base ho2 (Nat.zero_le _))
          rw [HW.out, Hb11.out]
          clear HW h0 hY0 Hb11 ho1 ho2 hb2 hs2
          refine HW.lst #[true, true, true, true, true, true, true, true, true, true, false, false] (by kernel_rfl) ?_
          have HZ := Lib.hid (And.intro hb11 (And.intro hbW (And.intro hYW.out (And.intro HO1.out (And.intro HO2.out (And.intro hle1 hle2))))))
          clear hb11 hbW hYW HO1 HO2
          clear hle1 hle2
          revert HZ
          revert b11
          revert W
          revert c2
          revert A2
          revert c1
          revert A1
          exact key.out
      intro A1 c1 A2 c2 W b11 HZ
      obtain ⟨hb11, hbW, hYW, hO1, hO2, hle1, hle2⟩ := HZ.out
      clear HZ
      refine HW.solo (i := 10) rfl (by kernel_rfl) (by kernel_rfl) ?_
      intro K hK
      refine wp_store_mid 83 _ _ rfl b11 0 (recVal (S[i]).s.r (.slice A1 (S[i]).s.r.rows.length c1) (.slice A2 (S[i]).s.r.entries.length c2)) rfl rfl (hYW.there 0 15 (by simp [zeroRec])) (by kernel_rfl) (rec_one _ _ _ _ _ _ _) ?_
      have hY2 := hYW.setCs (recVal (S[i]).s.r (.slice A1 (S[i]).s.r.rows.length c1) (.slice A2 (S[i]).s.r.entries.length c2)).toList W 0
      have hFY : Fr [b11] W (W.setCells b11 0 (recVal (S[i]).s.r (.slice A1 (S[i]).s.r.rows.length c1) (.slice A2 (S[i]).s.r.entries.length c2)).toList) := Fr.setCs _ _ _ (Fr.refl _ _) (.inl (by simp))
      have hb2 : Below wr.heap.size wr (W.setCells b11 0 (recVal (S[i]).s.r (.slice A1 (S[i]).s.r.rows.length c1) (.slice A2 (S[i]).s.r.entries.length c2)).toList) := below_setCs (g := b11) (B := wr.heap.size) _ _ _ hbW hb11
      refine hK _ _ hb2 ?_
      clear hK K
      refine HW.done (by kernel_rfl) ?_
      simp only [List.drop_succ_cons, List.drop_zero]
      have ho1 := hFY.own hO1 (freeOf_one hYW (by decide))
      have ho2 := hFY.own hO2 (freeOf_one hYW (by decide))
      obtain ⟨V, HV⟩ : ∃ V, Hid (W.setCells b11 0 (recVal (S[i]).s.r (.slice A1 (S[i]).s.r.rows.length c1) (.slice A2 (S[i]).s.r.entries.length c2)).toList = V) := ⟨_, Lib.hid rfl⟩
      rw [HV.out] at hb2 hY2 ho1 ho2 ⊢
      simp only [recVal, setN, List.set_cons_zero, List.set_cons_succ] at hY2
      have HY := Lib.hid (show Blk V b11 83 (recVal (S[i]).s.r (.slice A1 (S[i]).s.r.rows.length c1) (.slice A2 (S[i]).s.r.entries.length c2)) from hY2)
      have HO1 := Lib.hid ho1
      have HO2 := Lib.hid ho2
      have HXV := Lib.hid (HG.out.box.below hb2 hxr)
      rw [hrf'.out, Hgen.out] at HXV
      have hY2 := trivial
      clear HV hFY ho1 ho2 hO1 hO2 hYW hbW hcX hcM
      have hyV := HY.out.lt
      have hxV := HXV.out.lt
      have HOL := Lib.hid (ownsRow_keep HG.out.own hb2)
      have HOR := Lib.hid (ownsRow_keep HG.out.refs hb2)
      have hbs2 := hb2.size
      go_wp2_with fail
      obtain ⟨G9, HG9⟩ : ∃ G, Hid ((Value.slice A j c).ownBlock.toList = G) := ⟨_, Lib.hid rfl⟩
      have hG9 : ∀ g ∈ G9, w.heap.size ≤ g ∧ g < wr.heap.size := by rw [← HG9.out]; exact row_ge HG.out.own
      have n11 : b11 ∉ G9 := fun h => by have := (hG9 _ h).2; omega
      have nx : bx ∉ G9 := by rw [← HG9.out]; exact row_ne HOL.out HXV.out (by decide)
      have n10 : ∀ g ∈ (Value.slice B j d).ownBlock.toList, g ∉ G9 := by rw [← HG9.out]; exact rows_apart HOR.out HOL.out (by decide)
      have hG9 := Lib.hid hG9
      have n10 := Lib.hid n10
      have hcY := fun i => HY.out.cell i
      have hcX := fun i => HXV.out.cell i
      refine via (T := ?T2) (fun key => ?main2) ?rest2
      case main2 =>
        refine wp_region_head 7 (fun w' => Fr G9 V w') (by kernel_rfl) (by kernel_rfl) ?_
        (refine HW.q (i := 0) rfl (by kernel_rfl) (fun _ _ _ _ h => h) ?_ ?_; (focus ((try dsimp only); exact (by repeat' (first | (with_reducible exact Fr.refl _ _) | (with_reducible assumption) | (with_reducible refine Fr.drew ?_) | (with_reducible refine Fr.drewN ?_ _) | (with_reducible refine Fr.alloc ?_ _))))); intro K hK; go_simp; first | (refine hK _ ?_; clear hK K) | (refine ⟨_, fun _ _ => rfl, hK _ ?_⟩; clear hK K))
        (refine HW.q (i := 4) rfl (by kernel_rfl) (fun _ _ _ _ h => h) ?_ ?_; (focus ((try dsimp only); exact (by repeat' (first | (with_reducible exact Fr.refl _ _) | (with_reducible assumption) | (with_reducible refine Fr.drew ?_) | (with_reducible refine Fr.drewN ?_ _) | (with_reducible refine Fr.alloc ?_ _))))); intro K hK; go_simp; first | (refine hK _ ?_; clear hK K) | (refine ⟨_, fun _ _ => rfl, hK _ ?_⟩; clear hK K))
        refine HW.q (i := 1) rfl (by kernel_rfl) (fun _ _ _ _ h => h) ?_ ?_
        · try dsimp only
          exact (by repeat' (first | (with_reducible exact Fr.refl _ _) | (with_reducible assumption) | (with_reducible refine Fr.drew ?_) | (with_reducible refine Fr.drewN ?_ _) | (with_reducible refine Fr.alloc ?_ _)))
        intro K hK
        refine held_load_arr (by kernel_rfl) 83 _ rfl b11 0 rfl (recVal (S[i]).s.r (.slice A1 (S[i]).s.r.rows.length c1) (.slice A2 (S[i]).s.r.entries.length c2)) _ (fun w2 hw2 => ((show Fr G9 V w2 from hw2).blk HY.out n11).rangeArr) Tryz.underlying83 rfl (by kernel_rfl) ?_
        refine hK _ ?_
        clear hK K
        simp only [recVal]
        (refine HW.q (i := 5) rfl (by kernel_rfl) (fun _ _ _ _ h => h) ?_ ?_; (focus ((try dsimp only); exact (by repeat' (first | (with_reducible exact Fr.refl _ _) | (with_reducible assumption) | (with_reducible refine Fr.drew ?_) | (with_reducible refine Fr.drewN ?_ _) | (with_reducible refine Fr.alloc ?_ _))))); intro K hK; go_simp; apply Exists.intro; refine ⟨fun w2 hw2 => ?_, hK _ ?_⟩; (focus (obtain ⟨hc2, hf2⟩ := frcell hw2; go_simp; first | done | rfl)); clear hK K)
        refine HW.two (i := 2) (j := 6) rfl rfl (by kernel_rfl) (by kernel_rfl) (by kernel_rfl) ?_ ?_
        · intro K hK
          go_simp
          refine hK _ _ (by (try dsimp only); exact (by repeat' (first | (with_reducible exact Fr.refl _ _) | (with_reducible assumption) | (with_reducible refine Fr.drew ?_) | (with_reducible refine Fr.drewN ?_ _) | (with_reducible refine Fr.alloc ?_ _)))) ?_
          clear hK K
          refine HW.two (i := 3) (j := 6) rfl rfl (by kernel_rfl) (by kernel_rfl) (by kernel_rfl) ?_ ?_
          · intro K hK
            refine wp_append_any _ (.tmp 57) (.tmp 59) _ rfl w.heap.size 83 i1 _ 15 192 Tryz.underlying91 hi1 hy0 hy1 hy2 rfl (by decide) (.slice A j c) j (C.flatMap recCells) rfl (ownsRow_keep HOL.out (by repeat' (first | (with_reducible exact Below.refl _ _) | (with_reducible assumption) | (with_reducible refine Below.alloc ?_ ?_ _) | (with_reducible refine below_drewN ?_ _) | (with_reducible refine Below.drew ?_) | (with_reducible refine Below.setCell ?_ ?_ _) | go_size))) (V.heap.size + 1) (some ⟨V.heap.size, 0, none⟩) 1 1 (recVal (S[i]).s.r (.slice A1 (S[i]).s.r.rows.length c1) (.slice A2 (S[i]).s.r.entries.length c2)).toList rfl (lit_reads (X := V) (b := V.heap.size) (recVal (S[i]).s.r (.slice A1 (S[i]).s.r.rows.length c1) (.slice A2 (S[i]).s.r.entries.length c2)) 15 1 rfl rfl) (fun u hu => Array.all_eq_true_iff_forall_mem.1 (rec_all (S[i]).s.r A1 A2 _ _ c1 c2) u (Array.mem_toList_iff.1 hu)) ?_ ?_ ?_ ?_
            · simp only [maxLen]; omega
            · omega
            · go_size
            intro v1 w3 ho3 hg3 hx3
            obtain ⟨A60, c60, rfl, hl60⟩ := own_form ho3
            have hgF := Fr.of_grown0 hg3
            rw [HG9.out] at hgF
            have hF3 : Fr G9 V w3 := ((Fr.refl G9 V).drew.alloc _).trans hgF
            have Ho3 := Lib.hid ho3
            have hs3 := hgF.size
            clear ho3 hx3 hg3
            refine hK _ _ (by (try dsimp only); exact hF3) ?_
            clear hK K
            refine HW.solo (i := 6) rfl (by kernel_rfl) (by kernel_rfl) ?_
            intro K hK
            go_simp
            refine hK _ _ (by (try dsimp only); exact (by repeat' (first | (with_reducible exact Fr.refl _ _) | (with_reducible assumption) | (with_reducible refine Fr.drew ?_) | (with_reducible refine Fr.drewN ?_ _) | (with_reducible refine Fr.alloc ?_ _)))) ?_
            clear hK K
            generalize e59 : Value.slice (some ⟨V.heap.size, 0, none⟩) 1 1 = q59
            clear e59
            have hF4 : Fr G9 V (w3.alloc (.cells #[.int .i64 ((i : Int) + 1), .int .i64 gen] 55)) := hF3.alloc _
            have Ho4 := ownsRow_keep Ho3.out ((Below.refl _ _).alloc (Nat.le_refl _) (.cells #[.int .i64 ((i : Int) + 1), .int .i64 gen] 55))
            have hL4 : Reads (w3.alloc (.cells #[.int .i64 ((i : Int) + 1), .int .i64 gen] 55)) (w3.alloc (.cells #[.int .i64 ((i : Int) + 1), .int .i64 gen] 55)).heap.size 2 (some ⟨w3.heap.size, 0, none⟩) 1 [.int .i64 ((i : Int) + 1), .int .i64 gen] := (lit_reads (X := w3) (b := w3.heap.size) #[.int .i64 ((i : Int) + 1), .int .i64 gen] 2 1 rfl rfl).more (by simp)
            have hl4 : w3.heap.size < (w3.alloc (.cells #[.int .i64 ((i : Int) + 1), .int .i64 gen] 55)).heap.size := by simp
            obtain ⟨W3, HW3⟩ : ∃ W, Hid (w3.alloc (.cells #[.int .i64 ((i : Int) + 1), .int .i64 gen] 55) = W) := ⟨_, Lib.hid rfl⟩
            obtain ⟨b63, H63⟩ : ∃ b, Hid (w3.heap.size = b) := ⟨_, Lib.hid rfl⟩
            rw [HW3.out] at hF4 Ho4 hL4 hl4 ⊢
            rw [H63.out] at hL4 hl4 ⊢
            refine HW.lst #[true, true, true, true, true, true, true, false, false, false] (by kernel_rfl) ?_
            have HZ := Lib.hid (And.intro hF4 (And.intro Ho4 (And.intro hL4 hl4)))
            clear hgF hF3 Ho3 hL4 H63 HW3 hF4 Ho4 hl4 hs3 hl60
            revert HZ
            revert W3
            revert c60
            revert A60
            revert b63
            revert q59
            exact key.out
          · intro K hK
            go_simp
            refine hK _ _ (by (try dsimp only); exact (by repeat' (first | (with_reducible exact Fr.refl _ _) | (with_reducible assumption) | (with_reducible refine Fr.drew ?_) | (with_reducible refine Fr.drewN ?_ _) | (with_reducible refine Fr.alloc ?_ _)))) ?_
            clear hK K
            refine HW.solo (i := 3) rfl (by kernel_rfl) (by kernel_rfl) ?_
            intro K hK
            refine wp_append_any _ (.tmp 57) (.tmp 59) _ rfl w.heap.size 83 i1 _ 15 192 Tryz.underlying91 hi1 hy0 hy1 hy2 rfl (by decide) (.slice A j c) j (C.flatMap recCells) rfl (ownsRow_keep HOL.out (by repeat' (first | (with_reducible exact Below.refl _ _) | (with_reducible assumption) | (with_reducible refine Below.alloc ?_ ?_ _) | (with_reducible refine below_drewN ?_ _) | (with_reducible refine Below.drew ?_) | (with_reducible refine Below.setCell ?_ ?_ _) | go_size))) (V.heap.size + 1) (some ⟨V.heap.size, 0, none⟩) 1 1 (recVal (S[i]).s.r (.slice A1 (S[i]).s.r.rows.length c1) (.slice A2 (S[i]).s.r.entries.length c2)).toList rfl ((lit_reads (X := V) (b := V.heap.size) (recVal (S[i]).s.r (.slice A1 (S[i]).s.r.rows.length c1) (.slice A2 (S[i]).s.r.entries.length c2)) 15 1 rfl rfl).alloc (by first | (simp; done) | (simp; omega) | omega) _) (fun u hu => Array.all_eq_true_iff_forall_mem.1 (rec_all (S[i]).s.r A1 A2 _ _ c1 c2) u (Array.mem_toList_iff.1 hu)) ?_ ?_ ?_ ?_
            · simp only [maxLen]; omega
            · omega
            · go_size
            intro v1 w3 ho3 hg3 hx3
            obtain ⟨A60, c60, rfl, hl60⟩ := own_form ho3
            have hgF := Fr.of_grown0 hg3
            rw [HG9.out] at hgF
            have hF3 : Fr G9 V w3 := (((Fr.refl G9 V).drew.alloc _).alloc _).trans hgF
            have Ho3 := Lib.hid ho3
            have hs3 := hgF.size
            clear ho3 hx3 hg3
            refine hK _ _ (by (try dsimp only); exact hF3) ?_
            clear hK K
            generalize e59 : Value.slice (some ⟨V.heap.size, 0, none⟩) 1 1 = q59
            clear e59
            have hL3 : Reads w3 w3.heap.size 2 (some ⟨V.heap.size + 1, 0, none⟩) 1 [.int .i64 ((i : Int) + 1), .int .i64 gen] := (((lit_reads (X := (V.alloc (.cells (recVal (S[i]).s.r (.slice A1 (S[i]).s.r.rows.length c1) (.slice A2 (S[i]).s.r.entries.length c2)) 83))) (b := V.heap.size + 1) #[.int .i64 ((i : Int) + 1), .int .i64 gen] 2 1 (by first | (simp; done) | (simp; omega) | omega) rfl).drew.fr hgF (by simp) (fun h => by have := (hG9.out _ h).2; omega)).more (Nat.le_trans (by simp) hs3))
            obtain ⟨b63, H63⟩ : ∃ b, Hid (V.heap.size + 1 = b) := ⟨_, Lib.hid rfl⟩
            have hl63 : b63 < w3.heap.size := by rw [← H63.out]; simp at hs3; omega
            rw [H63.out] at hL3 ⊢
            refine HW.lst #[true, true, true, true, true, true, true, false, false, false] (by kernel_rfl) ?_
            have HZ := Lib.hid (And.intro hF3 (And.intro Ho3.out (And.intro hL3 hl63)))
            clear hgF hF3 Ho3 hL3 hl63 H63 hs3 hl60
            revert HZ
            revert w3
            revert c60
            revert A60
            revert b63
            revert q59
            exact key.out
        · intro K hK
          go_simp
          refine hK _ _ (by (try dsimp only); exact (by repeat' (first | (with_reducible exact Fr.refl _ _) | (with_reducible assumption) | (with_reducible refine Fr.drew ?_) | (with_reducible refine Fr.drewN ?_ _) | (with_reducible refine Fr.alloc ?_ _)))) ?_
          clear hK K
          refine HW.solo (i := 2) rfl (by kernel_rfl) (by kernel_rfl) ?_
          intro K hK
          go_simp
          refine hK _ _ (by (try dsimp only); exact (by repeat' (first | (with_reducible exact Fr.refl _ _) | (with_reducible assumption) | (with_reducible refine Fr.drew ?_) | (with_reducible refine Fr.drewN ?_ _) | (with_reducible refine Fr.alloc ?_ _)))) ?_
          clear hK K
          refine HW.solo (i := 3) rfl (by kernel_rfl) (by kernel_rfl) ?_
          intro K hK
          refine wp_append_any _ (.tmp 57) (.tmp 59) _ rfl w.heap.size 83 i1 _ 15 192 Tryz.underlying91 hi1 hy0 hy1 hy2 rfl (by decide) (.slice A j c) j (C.flatMap recCells) rfl (ownsRow_keep HOL.out (by repeat' (first | (with_reducible exact Below.refl _ _) | (with_reducible assumption) | (with_reducible refine Below.alloc ?_ ?_ _) | (with_reducible refine below_drewN ?_ _) | (with_reducible refine Below.drew ?_) | (with_reducible refine Below.setCell ?_ ?_ _) | go_size))) ((V.alloc (.cells #[.int .i64 ((i : Int) + 1), .int .i64 gen] 55)).heap.size + 1) (some ⟨V.heap.size + 1, 0, none⟩) 1 1 (recVal (S[i]).s.r (.slice A1 (S[i]).s.r.rows.length c1) (.slice A2 (S[i]).s.r.entries.length c2)).toList rfl (lit_reads (X := (V.alloc (.cells #[.int .i64 ((i : Int) + 1), .int .i64 gen] 55))) (b := V.heap.size + 1) (recVal (S[i]).s.r (.slice A1 (S[i]).s.r.rows.length c1) (.slice A2 (S[i]).s.r.entries.length c2)) 15 1 (by first | (simp; done) | (simp; omega) | omega) rfl) (fun u hu => Array.all_eq_true_iff_forall_mem.1 (rec_all (S[i]).s.r A1 A2 _ _ c1 c2) u (Array.mem_toList_iff.1 hu)) ?_ ?_ ?_ ?_
          · simp only [maxLen]; omega
          · omega
          · go_size
          intro v1 w3 ho3 hg3 hx3
          obtain ⟨A60, c60, rfl, hl60⟩ := own_form ho3
          have hgF := Fr.of_grown0 hg3
          rw [HG9.out] at hgF
          have hF3 : Fr G9 V w3 := (((Fr.refl G9 V).drew.alloc _).alloc _).trans hgF
          have Ho3 := Lib.hid ho3
          have hs3 := hgF.size
          clear ho3 hx3 hg3
          refine hK _ _ (by (try dsimp only); exact hF3) ?_
          clear hK K
          generalize e59 : Value.slice (some ⟨V.heap.size + 1, 0, none⟩) 1 1 = q59
          clear e59
          have hL3 : Reads w3 w3.heap.size 2 (some ⟨V.heap.size, 0, none⟩) 1 [.int .i64 ((i : Int) + 1), .int .i64 gen] := ((((lit_reads (X := V) (b := V.heap.size) #[.int .i64 ((i : Int) + 1), .int .i64 gen] 2 1 rfl rfl).alloc (by first | (simp; done) | (simp; omega) | omega) _).drew.fr hgF (by simp; omega) (fun h => by have := (hG9.out _ h).2; omega)).more (Nat.le_trans (by simp) hs3))
          obtain ⟨b63, H63⟩ : ∃ b, Hid (V.heap.size = b) := ⟨_, Lib.hid rfl⟩
          have hl63 : b63 < w3.heap.size := by rw [← H63.out]; simp at hs3; omega
          rw [H63.out] at hL3 ⊢
          refine HW.lst #[true, true, true, true, true, true, true, false, false, false] (by kernel_rfl) ?_
          have HZ := Lib.hid (And.intro hF3 (And.intro Ho3.out (And.intro hL3 hl63)))
          clear hgF hF3 Ho3 hL3 hl63 H63 hs3 hl60
          revert HZ
          revert w3
          revert c60
          revert A60
          revert b63
          revert q59
          exact key.out
      intro q59 b63 A60 c60 W3 HZ
      obtain ⟨hF3, hO9, hL3, hl63⟩ := HZ.out
      clear HZ
      refine HW.done (by kernel_rfl) ?_
      simp only [List.drop_succ_cons, List.drop_zero]
      have HO9 := Lib.hid hO9
      have HF3 := Lib.hid hF3
      have hbB3 : Below w.heap.size V W3 := hF3.below (by omega) (fun g hg => (hG9.out g hg).1)
      have HR3 := Lib.hid (ownsRow_fr HOR.out hF3 n10.out)
      have HY3 := Lib.hid (hF3.blk HY.out n11)
      have HX3 := Lib.hid (hF3.blk HXV.out nx)
      have hs3 := hF3.size
      clear hO9 hF3 hcY hcX
      refine wpList_append_any _ rfl (.tmp 61) (.tmp 63) _ rfl w.heap.size 55 i0 _ 2 16 Tryz.underlying92 hi0 hz0 hz1 hz2 rfl (by decide) (.slice B j d) j (refCells S T[n].head p j) rfl HR3.out W3.heap.size (some ⟨b63, 0, none⟩) 1 1 [.int .i64 ((i : Int) + 1), .int .i64 gen] rfl hL3 (by intro u hu; simp at hu; rcases hu with rfl | rfl <;> rfl) ?_ ?_ ?_ ?_
      · simp only [maxLen]; omega
      · omega
      · omega
      intro v2 w4 ho4 hg4 hx4
      obtain ⟨A64, c64, rfl, hl64⟩ := own_form ho4
      have hgF := Fr.of_grown0 hg4
      have hG10 := row_ge HR3.out
      have n11' : b11 ∉ (Value.slice B j d).ownBlock.toList := row_ne HR3.out HY3.out (by decide)
      have HY4 := Lib.hid (hgF.blk HY3.out n11')
      have HX4 := Lib.hid (hgF.blk HX3.out HG.out.apart)
      have HO9' := Lib.hid (ownsRow_fr HO9.out hgF (rows_apart HO9.out HR3.out (by decide)))
      have HO4 := Lib.hid ho4
      have hap := Lib.hid (slice_apart HG.out.apart HX3.out.lt hx4)
      have hlow : Below w.heap.size W3 w4 := hgF.below (by omega) (fun g hg => (hG10 g hg).1)
      have HgF := Lib.hid hgF
      have hy4 := HY4.out.lt
      have hx4l := HX4.out.lt
      have hs4 := hgF.size
      have hcY := fun i => HY4.out.cell i
      have hcX := fun i => HX4.out.cell i
      have hfX := fun i => HX4.out.frozen i
      have hxy : bx ≠ b11 := Blk.ne_ HX4.out HY4.out (by decide)
      simp only [recVal] at hcY
      clear ho4 hg4 hx4 hgF hG10 HY3 hL3
      go_wp2_with fail
      clear hcY hcX hfX
      have hX5 := HX4.out.sets [(0, .int .i64 (S[i]).s.r.next.slot), (1, .int .i64 (S[i]).s.r.next.gen)]
      simp only [asets, List.setIfInBounds_toArray, List.set_cons_succ, List.set_cons_zero] at hX5
      obtain ⟨W5, HW5⟩ : ∃ W5, Hid (wset bx [(0, .int .i64 (S[i]).s.r.next.slot), (1, .int .i64 (S[i]).s.r.next.gen)] w4 = W5) := ⟨_, Lib.hid rfl⟩
      have hF5 : Fr [bx] w4 W5 := by rw [← HW5.out]; exact Fr.sets bx _ w4
      have e5 : (w4.setCell ⟨bx, 0, none⟩ (.int .i64 (S[i]).s.r.next.slot)).setCell ⟨bx, 1, none⟩ (.int .i64 (S[i]).s.r.next.gen) = W5 := HW5.out
      rw [HW5.out] at hX5
      simp only [e5]
      clear HW5 e5
      refine ⟨⟨j + 1, A60, c60, A64, c64, C ++ [⟨(S[i]).s.r, .slice A1 (S[i]).s.r.rows.length c1, .slice A2 (S[i]).s.r.entries.length c2⟩], by omega, rfl, rfl, ?_⟩, by show p.length - (j + 1) < p.length - j; omega⟩
      have hfb : ∀ t, 55 ≠ t → FreeOf w4 [bx] t := fun t ht => freeOf_one HX4.out (Ne.symm ht)
      have hf9 : ∀ t, 83 ≠ t → FreeOf V G9 t := fun t ht => by rw [← HG9.out]; exact freeOf_row HOL.out (Ne.symm ht)
      have hf10 : ∀ t, 55 ≠ t → FreeOf W3 (Value.slice B j d).ownBlock.toList t := fun t ht => freeOf_row HR3.out (Ne.symm ht)
      have hrec : ∀ r rv ev, RecAt V r rv ev → RecAt W5 r rv ev := fun r rv ev h => ((h.fr HF3.out (hf9 _ (by decide)) (hf9 _ (by decide))).fr HgF.out (hf10 _ (by decide)) (hf10 _ (by decide))).fr hF5 (hfb _ (by decide)) (hfb _ (by decide))
      refine ⟨?_, ?_, ?_, ?_, ?_, ?_, hap.out, HG.out.ge, ?_⟩
      · simp [HG.out.len]
      · rw [List.map_append, HG.out.recs, recsOf_succ hpi hk]; rfl
      · have := hF5.own HO9'.out (hfb _ (by decide))
        simpa [recCells, List.flatMap_append] using this
      · intro x hx
        rcases List.mem_append.1 hx with h | h
        · exact hrec _ _ _ ((HG.out.at_ x h).keep hb2)
        · obtain rfl : x = _ := by simpa using h
          exact hrec _ _ _ ⟨⟨A1, c1, rfl, hle1, HO1.out⟩, ⟨A2, c2, rfl, hle2, HO2.out⟩⟩
      · have h4 := HO4.out
        rw [refCells_succ, hrf'.out, Hgen.out]
        refine ownsRow_fr h4 hF5 (fun g hg h => ?_)
        obtain rfl : g = bx := by simpa using h
        exact hap.out hg
      · rw [PathIs.next hpi hk]; exact hX5
      · exact hbr.trans ((hb2.mono hbs).trans (hbB3.trans (hlow.trans (hF5.below (by omega) (by intro g hg; simp at hg; subst hg; exact HG.out.ge)))))
    · obtain rfl : j = p.length := by omega
      have he := HP.out.end_
      rw [he] at hcX
      go_wp2_with fail
      refine bodyPost_ret (v := .tuple #[.slice A p.length c, .slice B p.length d, .nilIface]) ?_ rfl ⟨A, c, B, d, rfl, C, bx, HG.out⟩
      simp [results, Tryz.results32, go_sem]
end Go.Proofs.YthidclcliflhkaaGreat
end
