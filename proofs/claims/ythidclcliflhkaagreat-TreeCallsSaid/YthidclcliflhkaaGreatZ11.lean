/- The loader's second access: a chain's last record. A job that puts one record: contracts: only, and what it makes. -/
import Derived.Test.YthidclcliflhkaaGreatZ04
import Derived.Test.YthidclcliflhkaaGreatZ06
import Derived.Test.YthidclcliflhkaaGreatZ07
import Derived.Test.YthidclcliflhkaaGreatZ09
import Derived.Test.YthidclcliflhkaaGreatZ10
section
open Go Go.RowKit
namespace Go.Proofs.YthidclcliflhkaaGreat

theorem held_load_arr {P : Program} {ops : Array Oper} {o : Oper} {a : Act} {T : World → Prop} {K : Act → Prop} (hw : Region.wanted o (yielded ops a.tmps) = true) (ty : TypeId) (x : Operand) (ho : o.op = .load ty x)
    (b off : Nat) (hx : a.eval x = .pointer (some ⟨b, off, none⟩)) (cs : Array Value) (d : TypeDesc) (hT : ∀ w, T w → w.rangeAt b off cs.toList)
    (hu : P.underlying ty = some d) (hd : d.isRow = true) (hi : (P.info? ty).map (·.size) = some cs.size) (h : K (a.put o.dst (.agg cs))) :
    if Region.wanted o (yielded ops a.tmps) then ∃ v, (∀ w', T w' → (execOp a.eval o).run P w' = .ok (.value v) w') ∧ K (a.put o.dst v) else K (a.put o.dst undef) := by
  rw [if_pos hw]
  refine ⟨.agg cs, fun w hw' => ?_, h⟩
  have hl := run_loadVar_mid (P := P) w b off ty cs.toList d (hT w hw') hu hd (by simpa using hi)
  rw [Array.toArray_toList] at hl
  unfold execOp
  simp only [ho, hx, Instr.loadAt, Instr.sureAddr, Sem.run_bind, Sem.run_pure, Result.andThen_ok, hl]
set_option maxRecDepth 100000 in
set_option maxHeartbeats 1000000 in
theorem lstep_load (bl : Nat) (pn hs hg : Int) (n : Nat) (gen : Int) (b : MB) (lim : Rl.Limits) (count : Int) (S : List SlotV) (T : List Rl.Pg) (now : Int) (k : Nat) (D : DataW Unit) (w : World) (hL : Blk w bl 203 (loadC pn true false hs hg (n + 1) gen (.slice none 0 0) (.slice none 0 0) .nilIface)) (hM : MemAt w b lim count S T now k D)
    (hk : n < S.length) (hlen : S.length ≤ 4096) (hu : S[n].s.used = true) (hgen : S[n].s.gen = gen) (hok : RecOk S[n].s.r) (hn0 : S[n].s.r.next = ⟨0, 0⟩) (hc0 : 0 ≤ count) (hc1 : count ≤ 1099511627776) :
    Calls Tryz.prog 81 #[.pointer (some ⟨bl, 0, none⟩), .pointer (some ⟨b.m, 0, none⟩)] w fun e w' => e = .returned (.bool true) ∧ ∃ g1 c1 g2 c2 x, Blk w' bl 203 (loadC pn true true hs hg 0 0 (.slice (some ⟨g1, 0, none⟩) 1 c1) (.slice (some ⟨g2, 0, none⟩) 1 c2) .nilIface) ∧
      x.r = S[n].s.r ∧ ChainAt w' g1 c1 [x] ∧ Reads w' w'.heap.size 2 (some ⟨g2, 0, none⟩) 1 [.int .i64 (n + 1), .int .i64 gen] ∧ MemAt w' b lim (count + 1) S T now k D ∧ Fr (bl :: b.F) w w' := by
  have hlt := hL.lt
  have hc := fun i => hL.cell i
  simp only [loadC] at hc
  have HL := Lib.hid hL
  have HM := Lib.hid hM
  have Hn0 := Lib.hid hn0
  clear hL hM hn0
  go_enter Tryz.func81, Tryz.ntmps81
  have hO := HM.out.off HL.out (by decide) (by decide) (by decide) (by decide) (by decide) (by decide) (by decide) (by decide)
  have hnF := hO.notF
  go_wp2_with (first
    | (go_at_call 94
       refine (mload_any b lim count S T now k D n gen _ HM.out hk hlen hu hgen hok hc0 hc1).mono ?_
       rintro e w1 ⟨rv, ev, rfl, ⟨A3, c3, rfl, hl3, ho3⟩, ⟨A4, c4, rfl, hl4, ho4⟩, hM1, hF1⟩
       have HL1 := Lib.hid (hF1.blk HL.out hnF)
       have hl1 := HL1.out.lt
       have HR1 := Lib.hid (show RecAt w1 S[n].s.r (.slice A3 S[n].s.r.rows.length c3) (.slice A4 S[n].s.r.entries.length c4) from ⟨⟨A3, c3, rfl, hl3, ownsRow_base ho3 (Nat.zero_le _)⟩, ⟨A4, c4, rfl, hl4, ownsRow_base ho4 (Nat.zero_le _)⟩⟩)
       have HF1 := Lib.hid hF1
       have HM1 := Lib.hid hM1
       have HZ1 := Lib.hid (Blk.new_at (X := w1) (b := w1.heap.size) (t := 83) (cs := #[.int .i64 0, .string ⟨#[]⟩, .string ⟨#[]⟩, .bool false, .int .i64 0, .slice none 0 0, .slice none 0 0, .string ⟨#[]⟩, .string ⟨#[]⟩, .int .i64 0, .int .i64 0, .int .i64 0, .string ⟨#[]⟩, .int .i64 0, .int .i64 0]) rfl)
       clear ho3 ho4 hF1 hM1 hc)
    | (refine wpList_store_mid rfl 83 _ _ rfl w1.heap.size 0 (recVal S[n].s.r (.slice A3 S[n].s.r.rows.length c3) (.slice A4 S[n].s.r.entries.length c4)) rfl rfl (HZ1.out.there 0 15 (by simp)) (by kernel_rfl) (rec_all _ _ _ _ _ _ _) ?_
       have hRZ := HZ1.out.setCs (recVal S[n].s.r (.slice A3 S[n].s.r.rows.length c3) (.slice A4 S[n].s.r.entries.length c4)).toList _ 0
       have hbZ : Below w1.heap.size w1 ((w1.alloc (.cells #[.int .i64 0, .string ⟨#[]⟩, .string ⟨#[]⟩, .bool false, .int .i64 0, .slice none 0 0, .slice none 0 0, .string ⟨#[]⟩, .string ⟨#[]⟩, .int .i64 0, .int .i64 0, .int .i64 0, .string ⟨#[]⟩, .int .i64 0, .int .i64 0] 83)).setCells w1.heap.size 0 (recVal S[n].s.r (.slice A3 S[n].s.r.rows.length c3) (.slice A4 S[n].s.r.entries.length c4)).toList) := below_setCs (g := w1.heap.size) (B := w1.heap.size) _ _ _ (by repeat' (first | (with_reducible exact Below.refl _ _) | (with_reducible assumption) | (with_reducible refine Below.alloc ?_ ?_ _) | (with_reducible refine below_drewN ?_ _) | (with_reducible refine Below.drew ?_) | (with_reducible refine Below.setCell ?_ ?_ _) | go_size)) (Nat.le_refl _)
       obtain ⟨V, HV⟩ : ∃ V, Hid ((w1.alloc (.cells #[.int .i64 0, .string ⟨#[]⟩, .string ⟨#[]⟩, .bool false, .int .i64 0, .slice none 0 0, .slice none 0 0, .string ⟨#[]⟩, .string ⟨#[]⟩, .int .i64 0, .int .i64 0, .int .i64 0, .string ⟨#[]⟩, .int .i64 0, .int .i64 0] 83)).setCells w1.heap.size 0 (recVal S[n].s.r (.slice A3 S[n].s.r.rows.length c3) (.slice A4 S[n].s.r.entries.length c4)).toList = V) := ⟨_, Lib.hid rfl⟩
       rw [HV.out] at hRZ hbZ ⊢
       simp only [recVal, setN, List.set_cons_zero, List.set_cons_succ] at hRZ
       have HX := Lib.hid (show Blk V w1.heap.size 83 (recVal S[n].s.r (.slice A3 S[n].s.r.rows.length c3) (.slice A4 S[n].s.r.entries.length c4)) from hRZ)
       have HLV := Lib.hid (HL1.out.below hbZ hl1)
       have HRV := Lib.hid (HR1.out.keep hbZ)
       have HMV := Lib.hid (HM1.out.below hbZ)
       have HFV := Lib.hid (HF1.out.then_below hbZ)
       clear HV hRZ hbZ HZ1)
    | go_in)
  clear HL1 HR1 HF1 HM1 HL HM hO
  have hlV := HLV.out.lt
  have hxV := HX.out.lt
  have hcL := fun i => HLV.out.cell i
  simp only [loadC] at hcL
  obtain ⟨i0, hi0, hz0, hz1, hz2⟩ := info_parts ref_info
  obtain ⟨i1, hi1, hy0, hy1, hy2⟩ := info_parts rec_info
  refine via (T := ?T) (fun key => ?main) ?rest
  case main =>
    refine wp_region_mark 22 21 (fun b w' => bif b then Fr [bl] V w' else Below V.heap.size V w') (by kernel_rfl) (by kernel_rfl) ?_
    (refine MW.q (T := fun _ => True) false (i := 0) rfl (by kernel_rfl) (.inl fun _ _ _ => trivial) (fun _ _ _ _ h => h) (by kernel_rfl) ?_ ?_; (focus ((try dsimp only [cond_false]); exact (by repeat' (first | (with_reducible exact Below.refl _ _) | (with_reducible assumption) | (with_reducible refine Below.alloc ?_ ?_ _) | (with_reducible refine below_drewN ?_ _) | (with_reducible refine Below.drew ?_) | (with_reducible refine Below.setCell ?_ ?_ _) | go_size)))); intro K hK; go_simp; first | (refine hK _ ?_; clear hK K) | (refine ⟨_, fun _ _ => rfl, hK _ ?_⟩; clear hK K))
    (refine MW.q (T := fun _ => True) false (i := 1) rfl (by kernel_rfl) (.inl fun _ _ _ => trivial) (fun _ _ _ _ h => h) (by kernel_rfl) ?_ ?_; (focus ((try dsimp only [cond_false]); exact (by repeat' (first | (with_reducible exact Below.refl _ _) | (with_reducible assumption) | (with_reducible refine Below.alloc ?_ ?_ _) | (with_reducible refine below_drewN ?_ _) | (with_reducible refine Below.drew ?_) | (with_reducible refine Below.setCell ?_ ?_ _) | go_size)))); intro K hK; go_simp; first | (refine hK _ ?_; clear hK K) | (refine ⟨_, fun _ _ => rfl, hK _ ?_⟩; clear hK K))
    (refine MW.q (T := fun _ => True) false (i := 2) rfl (by kernel_rfl) (.inl fun _ _ _ => trivial) (fun _ _ _ _ h => h) (by kernel_rfl) ?_ ?_; (focus ((try dsimp only [cond_false]); exact (by repeat' (first | (with_reducible exact Below.refl _ _) | (with_reducible assumption) | (with_reducible refine Below.alloc ?_ ?_ _) | (with_reducible refine below_drewN ?_ _) | (with_reducible refine Below.drew ?_) | (with_reducible refine Below.setCell ?_ ?_ _) | go_size)))); intro K hK; go_simp; first | (refine hK _ ?_; clear hK K) | (refine ⟨_, fun _ _ => rfl, hK _ ?_⟩; clear hK K))
    (refine MW.q (T := fun _ => True) false (i := 3) rfl (by kernel_rfl) (.inl fun _ _ _ => trivial) (fun _ _ _ _ h => h) (by kernel_rfl) ?_ ?_; (focus ((try dsimp only [cond_false]); exact (by repeat' (first | (with_reducible exact Below.refl _ _) | (with_reducible assumption) | (with_reducible refine Below.alloc ?_ ?_ _) | (with_reducible refine below_drewN ?_ _) | (with_reducible refine Below.drew ?_) | (with_reducible refine Below.setCell ?_ ?_ _) | go_size)))); intro K hK; go_simp; first | (refine hK _ ?_; clear hK K) | (refine ⟨_, fun _ _ => rfl, hK _ ?_⟩; clear hK K))
    (refine MW.q (T := fun _ => True) false (i := 4) rfl (by kernel_rfl) (.inl fun _ _ _ => trivial) (fun _ _ _ _ h => h) (by kernel_rfl) ?_ ?_; (focus ((try dsimp only [cond_false]); exact (by repeat' (first | (with_reducible exact Below.refl _ _) | (with_reducible assumption) | (with_reducible refine Below.alloc ?_ ?_ _) | (with_reducible refine below_drewN ?_ _) | (with_reducible refine Below.drew ?_) | (with_reducible refine Below.setCell ?_ ?_ _) | go_size)))); intro K hK; go_simp; first | (refine hK _ ?_; clear hK K) | (refine ⟨_, fun _ _ => rfl, hK _ ?_⟩; clear hK K))
    (refine MW.q false (i := 5) rfl (by kernel_rfl) (.inr ⟨by kernel_rfl, fun _ h => h⟩) (fun _ _ _ _ h => h) (by kernel_rfl) ?_ ?_; (focus ((try dsimp only [cond_false]); exact (by repeat' (first | (with_reducible exact Below.refl _ _) | (with_reducible assumption) | (with_reducible refine Below.alloc ?_ ?_ _) | (with_reducible refine below_drewN ?_ _) | (with_reducible refine Below.drew ?_) | (with_reducible refine Below.setCell ?_ ?_ _) | go_size)))); intro K hK; go_simp; apply Exists.intro; refine ⟨fun w2 hw2 => ?_, hK _ ?_⟩; (focus (have hw2 : Below _ _ w2 := hw2; obtain ⟨hc2, hf2⟩ := bcell hw2; go_simp; first | done | rfl)); clear hK K)
    refine MW.q false (i := 6) rfl (by kernel_rfl) (.inr ⟨by kernel_rfl, fun _ h => h⟩) (fun _ _ _ _ h => h) (by kernel_rfl) ?_ ?_
    · dsimp only [cond_false]
      exact (by repeat' (first | (with_reducible exact Below.refl _ _) | (with_reducible assumption) | (with_reducible refine Below.alloc ?_ ?_ _) | (with_reducible refine below_drewN ?_ _) | (with_reducible refine Below.drew ?_) | (with_reducible refine Below.setCell ?_ ?_ _) | go_size))
    intro K hK
    refine held_load_arr (by kernel_rfl) 83 _ rfl w1.heap.size 0 rfl (recVal S[n].s.r (.slice A3 S[n].s.r.rows.length c3) (.slice A4 S[n].s.r.entries.length c4)) _ (fun w2 hw2 => (HX.out.below (show Below V.heap.size V w2 from hw2) hxV).rangeArr) Tryz.underlying83 rfl (by kernel_rfl) ?_
    refine hK _ ?_
    clear hK K
    (refine MW.q (T := fun _ => True) false (i := 9) rfl (by kernel_rfl) (.inl fun _ _ _ => trivial) (fun _ _ _ _ h => h) (by kernel_rfl) ?_ ?_; (focus ((try dsimp only [cond_false]); exact (by repeat' (first | (with_reducible exact Below.refl _ _) | (with_reducible assumption) | (with_reducible refine Below.alloc ?_ ?_ _) | (with_reducible refine below_drewN ?_ _) | (with_reducible refine Below.drew ?_) | (with_reducible refine Below.setCell ?_ ?_ _) | go_size)))); intro K hK; go_simp; first | (refine hK _ ?_; clear hK K) | (refine ⟨_, fun _ _ => rfl, hK _ ?_⟩; clear hK K))
    (refine MW.q (T := fun _ => True) false (i := 10) rfl (by kernel_rfl) (.inl fun _ _ _ => trivial) (fun _ _ _ _ h => h) (by kernel_rfl) ?_ ?_; (focus ((try dsimp only [cond_false]); exact (by repeat' (first | (with_reducible exact Below.refl _ _) | (with_reducible assumption) | (with_reducible refine Below.alloc ?_ ?_ _) | (with_reducible refine below_drewN ?_ _) | (with_reducible refine Below.drew ?_) | (with_reducible refine Below.setCell ?_ ?_ _) | go_size)))); intro K hK; go_simp; first | (refine hK _ ?_; clear hK K) | (refine ⟨_, fun _ _ => rfl, hK _ ?_⟩; clear hK K))
    (refine MW.q (T := fun _ => True) false (i := 11) rfl (by kernel_rfl) (.inl fun _ _ _ => trivial) (fun _ _ _ _ h => h) (by kernel_rfl) ?_ ?_; (focus ((try dsimp only [cond_false]); exact (by repeat' (first | (with_reducible exact Below.refl _ _) | (with_reducible assumption) | (with_reducible refine Below.alloc ?_ ?_ _) | (with_reducible refine below_drewN ?_ _) | (with_reducible refine Below.drew ?_) | (with_reducible refine Below.setCell ?_ ?_ _) | go_size)))); intro K hK; go_simp; first | (refine hK _ ?_; clear hK K) | (refine ⟨_, fun _ _ => rfl, hK _ ?_⟩; clear hK K))
    (refine MW.q false (i := 12) rfl (by kernel_rfl) (.inr ⟨by kernel_rfl, fun _ h => h⟩) (fun _ _ _ _ h => h) (by kernel_rfl) ?_ ?_; (focus ((try dsimp only [cond_false]); exact (by repeat' (first | (with_reducible exact Below.refl _ _) | (with_reducible assumption) | (with_reducible refine Below.alloc ?_ ?_ _) | (with_reducible refine below_drewN ?_ _) | (with_reducible refine Below.drew ?_) | (with_reducible refine Below.setCell ?_ ?_ _) | go_size)))); intro K hK; go_simp; apply Exists.intro; refine ⟨fun w2 hw2 => ?_, hK _ ?_⟩; (focus (have hw2 : Below _ _ w2 := hw2; obtain ⟨hc2, hf2⟩ := bcell hw2; go_simp; first | done | rfl)); clear hK K)
    (refine MW.q (T := fun _ => True) false (i := 13) rfl (by kernel_rfl) (.inl fun _ _ _ => trivial) (fun _ _ _ _ h => h) (by kernel_rfl) ?_ ?_; (focus ((try dsimp only [cond_false]); exact (by repeat' (first | (with_reducible exact Below.refl _ _) | (with_reducible assumption) | (with_reducible refine Below.alloc ?_ ?_ _) | (with_reducible refine below_drewN ?_ _) | (with_reducible refine Below.drew ?_) | (with_reducible refine Below.setCell ?_ ?_ _) | go_size)))); intro K hK; go_simp; first | (refine hK _ ?_; clear hK K) | (refine ⟨_, fun _ _ => rfl, hK _ ?_⟩; clear hK K))
    (refine MW.q (T := fun _ => True) false (i := 14) rfl (by kernel_rfl) (.inl fun _ _ _ => trivial) (fun _ _ _ _ h => h) (by kernel_rfl) ?_ ?_; (focus ((try dsimp only [cond_false]); exact (by repeat' (first | (with_reducible exact Below.refl _ _) | (with_reducible assumption) | (with_reducible refine Below.alloc ?_ ?_ _) | (with_reducible refine below_drewN ?_ _) | (with_reducible refine Below.drew ?_) | (with_reducible refine Below.setCell ?_ ?_ _) | go_size)))); intro K hK; go_simp; first | (refine hK _ ?_; clear hK K) | (refine ⟨_, fun _ _ => rfl, hK _ ?_⟩; clear hK K))
    (refine MW.q (T := fun _ => True) false (i := 15) rfl (by kernel_rfl) (.inl fun _ _ _ => trivial) (fun _ _ _ _ h => h) (by kernel_rfl) ?_ ?_; (focus ((try dsimp only [cond_false]); exact (by repeat' (first | (with_reducible exact Below.refl _ _) | (with_reducible assumption) | (with_reducible refine Below.alloc ?_ ?_ _) | (with_reducible refine below_drewN ?_ _) | (with_reducible refine Below.drew ?_) | (with_reducible refine Below.setCell ?_ ?_ _) | go_size)))); intro K hK; go_simp; first | (refine hK _ ?_; clear hK K) | (refine ⟨_, fun _ _ => rfl, hK _ ?_⟩; clear hK K))
    (refine MW.q false (i := 16) rfl (by kernel_rfl) (.inr ⟨by kernel_rfl, fun _ h => h⟩) (fun _ _ _ _ h => h) (by kernel_rfl) ?_ ?_; (focus ((try dsimp only [cond_false]); exact (by repeat' (first | (with_reducible exact Below.refl _ _) | (with_reducible assumption) | (with_reducible refine Below.alloc ?_ ?_ _) | (with_reducible refine below_drewN ?_ _) | (with_reducible refine Below.drew ?_) | (with_reducible refine Below.setCell ?_ ?_ _) | go_size)))); intro K hK; go_simp; apply Exists.intro; refine ⟨fun w2 hw2 => ?_, hK _ ?_⟩; (focus (have hw2 : Below _ _ w2 := hw2; obtain ⟨hc2, hf2⟩ := bcell hw2; go_simp; first | done | rfl)); clear hK K)
    simp only [recVal]
    refine MW.two false false (i := 7) (j := 17) rfl rfl (by kernel_rfl) (by kernel_rfl) (by kernel_rfl) (by kernel_rfl) (by kernel_rfl) ?_ ?_
    · intro K hK
      go_simp
      refine hK _ _ (by dsimp only [cond_false]; exact (by repeat' (first | (with_reducible exact Below.refl _ _) | (with_reducible assumption) | (with_reducible refine Below.alloc ?_ ?_ _) | (with_reducible refine below_drewN ?_ _) | (with_reducible refine Below.drew ?_) | (with_reducible refine Below.setCell ?_ ?_ _) | go_size))) ?_
      clear hK K
      refine MW.two false false (i := 8) (j := 17) rfl rfl (by kernel_rfl) (by kernel_rfl) (by kernel_rfl) (by kernel_rfl) (by kernel_rfl) ?_ ?_
      · intro K hK
        refine wp_append_any _ (.tmp 68) (.tmp 70) _ rfl V.heap.size 83 i1 _ 15 192 Tryz.underlying91 hi1 hy0 hy1 hy2 rfl (by decide) (.slice none 0 0) 0 [] rfl (World.ownsRow_nil _ _ _ _) (V.heap.size + 1) (some ⟨V.heap.size, 0, none⟩) 1 1 (recVal S[n].s.r (.slice A3 S[n].s.r.rows.length c3) (.slice A4 S[n].s.r.entries.length c4)).toList rfl (lit_reads (X := V) (b := V.heap.size) (recVal S[n].s.r (.slice A3 S[n].s.r.rows.length c3) (.slice A4 S[n].s.r.entries.length c4)) 15 1 rfl rfl) (fun u hu => Array.all_eq_true_iff_forall_mem.1 (rec_all S[n].s.r A3 A4 _ _ c3 c4) u (Array.mem_toList_iff.1 hu)) (by decide) (by decide) (by first | (simp; done) | (simp; omega) | omega) ?_
        intro v1 w2 ho1 hg1 hx1
        obtain ⟨A7, c7, rfl, hl7⟩ := own_form ho1
        simp only [Nat.zero_add, List.nil_append] at ho1
        have hb2 : Below V.heap.size V w2 := Below.grown (a := V) (by repeat' (first | (with_reducible exact Below.refl _ _) | (with_reducible assumption) | (with_reducible refine Below.alloc ?_ ?_ _) | (with_reducible refine below_drewN ?_ _) | (with_reducible refine Below.drew ?_) | (with_reducible refine Below.setCell ?_ ?_ _) | go_size)) hg1 (by first | (simp; done) | (simp; omega) | omega) (by simp [Value.ownBlock])
        have hbs := hb2.size
        have Ho1 := Lib.hid ho1
        clear ho1 hx1
        simp only [Nat.zero_add]
        refine hK _ _ (by dsimp only [cond_false]; exact hb2) ?_
        clear hK K
        refine MW.solo false (i := 17) rfl (by kernel_rfl) (by kernel_rfl) (by kernel_rfl) ?_
        intro K hK
        go_simp
        refine hK _ _ (by dsimp only [cond_false]; exact (by repeat' (first | (with_reducible exact Below.refl _ _) | (with_reducible assumption) | (with_reducible refine Below.alloc ?_ ?_ _) | (with_reducible refine below_drewN ?_ _) | (with_reducible refine Below.drew ?_) | (with_reducible refine Below.setCell ?_ ?_ _) | go_size))) ?_
        clear hK K
        refine MW.solo false (i := 18) rfl (by kernel_rfl) (by kernel_rfl) (by kernel_rfl) ?_
        intro K hK
        refine wp_append_any _ (.tmp 75) (.tmp 80) _ rfl V.heap.size 55 i0 _ 2 16 Tryz.underlying92 hi0 hz0 hz1 hz2 rfl (by decide) (.slice none 0 0) 0 [] rfl (World.ownsRow_nil _ _ _ _) (w2.heap.size + 1) (some ⟨w2.heap.size, 0, none⟩) 1 1 [.int .i64 ((n : Int) + 1), .int .i64 gen] rfl (lit_reads (X := w2) (b := w2.heap.size) #[.int .i64 ((n : Int) + 1), .int .i64 gen] 2 1 rfl rfl) (by intro u hu; simp at hu; rcases hu with rfl | rfl <;> rfl) (by decide) (by decide) (by first | (simp; done) | (simp; omega) | omega) ?_
        intro v2 w3 ho2 hg2 hx2
        obtain ⟨A8, c8, rfl, hl8⟩ := own_form ho2
        simp only [Nat.zero_add, List.nil_append] at ho2
        have hb3 : Below w2.heap.size w2 w3 := Below.grown (a := w2) (by repeat' (first | (with_reducible exact Below.refl _ _) | (with_reducible assumption) | (with_reducible refine Below.alloc ?_ ?_ _) | (with_reducible refine below_drewN ?_ _) | (with_reducible refine Below.drew ?_) | (with_reducible refine Below.setCell ?_ ?_ _) | go_size)) hg2 (by first | (simp; done) | (simp; omega) | omega) (by simp [Value.ownBlock])
        have Ho1' := Lib.hid (ownsRow_keep Ho1.out hb3)
        have Ho2 := Lib.hid ho2
        have hbV3 : Below V.heap.size V w3 := below_to hb2 hb3
        clear ho2 hx2 hg2 hg1 hb3
        simp only [Nat.zero_add]
        refine hK _ _ (by dsimp only [cond_false]; exact hbV3) ?_
        clear hK K
        generalize e7 : Value.slice (some ⟨V.heap.size, 0, none⟩) 1 1 = q7
        generalize e17 : Value.slice (some ⟨w2.heap.size, 0, none⟩) 1 1 = q17
        have HZ := Lib.hid (And.intro Ho1'.out (And.intro Ho2.out (And.intro hbV3 (And.intro hl7 hl8))))
        clear e7 e17 Ho1 Ho1' Ho2 hbV3 hb2 hbs
        clear hl7 hl8
        revert HZ
        revert w3
        revert c8
        revert A8
        revert c7
        revert A7
        revert q17
        revert q7
        exact key.out
      · intro K hK
        go_simp
        refine hK _ _ (by dsimp only [cond_false]; exact (by repeat' (first | (with_reducible exact Below.refl _ _) | (with_reducible assumption) | (with_reducible refine Below.alloc ?_ ?_ _) | (with_reducible refine below_drewN ?_ _) | (with_reducible refine Below.drew ?_) | (with_reducible refine Below.setCell ?_ ?_ _) | go_size))) ?_
        clear hK K
        refine MW.solo false (i := 8) rfl (by kernel_rfl) (by kernel_rfl) (by kernel_rfl) ?_
        intro K hK
        refine wp_append_any _ (.tmp 68) (.tmp 70) _ rfl V.heap.size 83 i1 _ 15 192 Tryz.underlying91 hi1 hy0 hy1 hy2 rfl (by decide) (.slice none 0 0) 0 [] rfl (World.ownsRow_nil _ _ _ _) (V.heap.size + 1) (some ⟨V.heap.size, 0, none⟩) 1 1 (recVal S[n].s.r (.slice A3 S[n].s.r.rows.length c3) (.slice A4 S[n].s.r.entries.length c4)).toList rfl ((lit_reads (X := V) (b := V.heap.size) (recVal S[n].s.r (.slice A3 S[n].s.r.rows.length c3) (.slice A4 S[n].s.r.entries.length c4)) 15 1 rfl rfl).alloc (by first | (simp; done) | (simp; omega) | omega) _) (fun u hu => Array.all_eq_true_iff_forall_mem.1 (rec_all S[n].s.r A3 A4 _ _ c3 c4) u (Array.mem_toList_iff.1 hu)) (by decide) (by decide) (by first | (simp; done) | (simp; omega) | omega) ?_
        intro v1 w2 ho1 hg1 hx1
        obtain ⟨A7, c7, rfl, hl7⟩ := own_form ho1
        simp only [Nat.zero_add, List.nil_append] at ho1
        have hb2 : Below V.heap.size V w2 := Below.grown (a := V) (by repeat' (first | (with_reducible exact Below.refl _ _) | (with_reducible assumption) | (with_reducible refine Below.alloc ?_ ?_ _) | (with_reducible refine below_drewN ?_ _) | (with_reducible refine Below.drew ?_) | (with_reducible refine Below.setCell ?_ ?_ _) | go_size)) hg1 (by first | (simp; done) | (simp; omega) | omega) (by simp [Value.ownBlock])
        have hbs := hb2.size
        have Ho1 := Lib.hid ho1
        clear ho1 hx1
        simp only [Nat.zero_add]
        refine hK _ _ (by dsimp only [cond_false]; exact hb2) ?_
        clear hK K
        refine MW.solo false (i := 18) rfl (by kernel_rfl) (by kernel_rfl) (by kernel_rfl) ?_
        intro K hK
        refine wp_append_any _ (.tmp 75) (.tmp 80) _ rfl V.heap.size 55 i0 _ 2 16 Tryz.underlying92 hi0 hz0 hz1 hz2 rfl (by decide) (.slice none 0 0) 0 [] rfl (World.ownsRow_nil _ _ _ _) ((V.alloc (.cells (recVal S[n].s.r (.slice A3 S[n].s.r.rows.length c3) (.slice A4 S[n].s.r.entries.length c4)) 83)).heap.size + 1) (some ⟨V.heap.size + 1, 0, none⟩) 1 1 [.int .i64 ((n : Int) + 1), .int .i64 gen] rfl ((lit_reads (X := V.alloc (.cells (recVal S[n].s.r (.slice A3 S[n].s.r.rows.length c3) (.slice A4 S[n].s.r.entries.length c4)) 83)) (b := V.heap.size + 1) #[.int .i64 ((n : Int) + 1), .int .i64 gen] 2 1 (by first | (simp; done) | (simp; omega) | omega) rfl).drew.grown hg1 (by first | (simp; done) | (simp; omega) | omega) (by simp [Value.ownBlock])) (by intro u hu; simp at hu; rcases hu with rfl | rfl <;> rfl) (by decide) (by decide) (by first | (simp; done) | (simp; omega) | omega) ?_
        intro v2 w3 ho2 hg2 hx2
        obtain ⟨A8, c8, rfl, hl8⟩ := own_form ho2
        simp only [Nat.zero_add, List.nil_append] at ho2
        have hb3 : Below w2.heap.size w2 w3 := Below.grown (a := w2) (by repeat' (first | (with_reducible exact Below.refl _ _) | (with_reducible assumption) | (with_reducible refine Below.alloc ?_ ?_ _) | (with_reducible refine below_drewN ?_ _) | (with_reducible refine Below.drew ?_) | (with_reducible refine Below.setCell ?_ ?_ _) | go_size)) hg2 (by first | (simp; done) | (simp; omega) | omega) (by simp [Value.ownBlock])
        have Ho1' := Lib.hid (ownsRow_keep Ho1.out hb3)
        have Ho2 := Lib.hid ho2
        have hbV3 : Below V.heap.size V w3 := below_to hb2 hb3
        clear ho2 hx2 hg2 hg1 hb3
        simp only [Nat.zero_add]
        refine hK _ _ (by dsimp only [cond_false]; exact hbV3) ?_
        clear hK K
        generalize e7 : Value.slice (some ⟨V.heap.size, 0, none⟩) 1 1 = q7
        generalize e17 : Value.slice (some ⟨V.heap.size + 1, 0, none⟩) 1 1 = q17
        have HZ := Lib.hid (And.intro Ho1'.out (And.intro Ho2.out (And.intro hbV3 (And.intro hl7 hl8))))
        clear e7 e17 Ho1 Ho1' Ho2 hbV3 hb2 hbs
        clear hl7 hl8
        revert HZ
        revert w3
        revert c8
        revert A8
        revert c7
        revert A7
        revert q17
        revert q7
        exact key.out
    · intro K hK
      go_simp
      refine hK _ _ (by dsimp only [cond_false]; exact (by repeat' (first | (with_reducible exact Below.refl _ _) | (with_reducible assumption) | (with_reducible refine Below.alloc ?_ ?_ _) | (with_reducible refine below_drewN ?_ _) | (with_reducible refine Below.drew ?_) | (with_reducible refine Below.setCell ?_ ?_ _) | go_size))) ?_
      clear hK K
      refine MW.solo false (i := 7) rfl (by kernel_rfl) (by kernel_rfl) (by kernel_rfl) ?_
      intro K hK
      go_simp
      refine hK _ _ (by dsimp only [cond_false]; exact (by repeat' (first | (with_reducible exact Below.refl _ _) | (with_reducible assumption) | (with_reducible refine Below.alloc ?_ ?_ _) | (with_reducible refine below_drewN ?_ _) | (with_reducible refine Below.drew ?_) | (with_reducible refine Below.setCell ?_ ?_ _) | go_size))) ?_
      clear hK K
      refine MW.solo false (i := 8) rfl (by kernel_rfl) (by kernel_rfl) (by kernel_rfl) ?_
      intro K hK
      refine wp_append_any _ (.tmp 68) (.tmp 70) _ rfl V.heap.size 83 i1 _ 15 192 Tryz.underlying91 hi1 hy0 hy1 hy2 rfl (by decide) (.slice none 0 0) 0 [] rfl (World.ownsRow_nil _ _ _ _) ((V.alloc (.cells #[.int .i64 ((n : Int) + 1), .int .i64 gen] 55)).heap.size + 1) (some ⟨V.heap.size + 1, 0, none⟩) 1 1 (recVal S[n].s.r (.slice A3 S[n].s.r.rows.length c3) (.slice A4 S[n].s.r.entries.length c4)).toList rfl (lit_reads (X := V.alloc (.cells #[.int .i64 ((n : Int) + 1), .int .i64 gen] 55)) (b := V.heap.size + 1) (recVal S[n].s.r (.slice A3 S[n].s.r.rows.length c3) (.slice A4 S[n].s.r.entries.length c4)) 15 1 (by first | (simp; done) | (simp; omega) | omega) rfl) (fun u hu => Array.all_eq_true_iff_forall_mem.1 (rec_all S[n].s.r A3 A4 _ _ c3 c4) u (Array.mem_toList_iff.1 hu)) (by decide) (by decide) (by first | (simp; done) | (simp; omega) | omega) ?_
      intro v1 w2 ho1 hg1 hx1
      obtain ⟨A7, c7, rfl, hl7⟩ := own_form ho1
      simp only [Nat.zero_add, List.nil_append] at ho1
      have hb2 : Below V.heap.size V w2 := Below.grown (a := V) (by repeat' (first | (with_reducible exact Below.refl _ _) | (with_reducible assumption) | (with_reducible refine Below.alloc ?_ ?_ _) | (with_reducible refine below_drewN ?_ _) | (with_reducible refine Below.drew ?_) | (with_reducible refine Below.setCell ?_ ?_ _) | go_size)) hg1 (by first | (simp; done) | (simp; omega) | omega) (by simp [Value.ownBlock])
      have hbs := hb2.size
      have Ho1 := Lib.hid ho1
      clear ho1 hx1
      simp only [Nat.zero_add]
      refine hK _ _ (by dsimp only [cond_false]; exact hb2) ?_
      clear hK K
      refine MW.solo false (i := 18) rfl (by kernel_rfl) (by kernel_rfl) (by kernel_rfl) ?_
      intro K hK
      refine wp_append_any _ (.tmp 75) (.tmp 80) _ rfl V.heap.size 55 i0 _ 2 16 Tryz.underlying92 hi0 hz0 hz1 hz2 rfl (by decide) (.slice none 0 0) 0 [] rfl (World.ownsRow_nil _ _ _ _) (V.heap.size + 1) (some ⟨V.heap.size, 0, none⟩) 1 1 [.int .i64 ((n : Int) + 1), .int .i64 gen] rfl (((lit_reads (X := V) (b := V.heap.size) #[.int .i64 ((n : Int) + 1), .int .i64 gen] 2 1 rfl rfl).alloc (by first | (simp; done) | (simp; omega) | omega) _).drew.grown hg1 (by first | (simp; done) | (simp; omega) | omega) (by simp [Value.ownBlock])) (by intro u hu; simp at hu; rcases hu with rfl | rfl <;> rfl) (by decide) (by decide) (by first | (simp; done) | (simp; omega) | omega) ?_
      intro v2 w3 ho2 hg2 hx2
      obtain ⟨A8, c8, rfl, hl8⟩ := own_form ho2
      simp only [Nat.zero_add, List.nil_append] at ho2
      have hb3 : Below w2.heap.size w2 w3 := Below.grown (a := w2) (by repeat' (first | (with_reducible exact Below.refl _ _) | (with_reducible assumption) | (with_reducible refine Below.alloc ?_ ?_ _) | (with_reducible refine below_drewN ?_ _) | (with_reducible refine Below.drew ?_) | (with_reducible refine Below.setCell ?_ ?_ _) | go_size)) hg2 (by first | (simp; done) | (simp; omega) | omega) (by simp [Value.ownBlock])
      have Ho1' := Lib.hid (ownsRow_keep Ho1.out hb3)
      have Ho2 := Lib.hid ho2
      have hbV3 : Below V.heap.size V w3 := below_to hb2 hb3
      clear ho2 hx2 hg2 hg1 hb3
      simp only [Nat.zero_add]
      refine hK _ _ (by dsimp only [cond_false]; exact hbV3) ?_
      clear hK K
      generalize e7 : Value.slice (some ⟨V.heap.size + 1, 0, none⟩) 1 1 = q7
      generalize e17 : Value.slice (some ⟨V.heap.size, 0, none⟩) 1 1 = q17
      have HZ := Lib.hid (And.intro Ho1'.out (And.intro Ho2.out (And.intro hbV3 (And.intro hl7 hl8))))
      clear e7 e17 Ho1 Ho1' Ho2 hbV3 hb2 hbs
      clear hl7 hl8
      revert HZ
      revert w3
      revert c8
      revert A8
      revert c7
      revert A7
      revert q17
      revert q7
      exact key.out
  intro q7 q17 A7 c7 A8 c8 w3 HZ
  obtain ⟨ho1, ho2, hb3, hl7, hl8⟩ := HZ.out
  have HO1 := Lib.hid ho1
  have HO2 := Lib.hid ho2
  have HL3 := Lib.hid (HLV.out.below hb3 hlV)
  have HX3 := Lib.hid (HX.out.below hb3 hxV)
  have HR3 := Lib.hid (HRV.out.keep hb3)
  have HM3 := Lib.hid (HMV.out.below hb3)
  have HF3 := Lib.hid (HFV.out.then_below hb3)
  have hl3' := HL3.out.lt
  have hx3 := HX3.out.lt
  have hc3 := fun i => HL3.out.cell i
  have hf3 := fun i => HL3.out.frozen i
  simp only [loadC] at hc3
  clear ho1 ho2 HZ hcL HLV HX HRV HMV HFV
  (refine MW.q (T := fun _ => True) false (i := 19) rfl (by kernel_rfl) (.inl fun _ _ _ => trivial) (fun _ _ _ _ h => h) (by kernel_rfl) ?_ ?_; (focus ((try dsimp only [cond_false]); exact (by repeat' (first | (with_reducible exact Below.refl _ _) | (with_reducible assumption) | (with_reducible refine Below.alloc ?_ ?_ _) | (with_reducible refine below_drewN ?_ _) | (with_reducible refine Below.drew ?_) | (with_reducible refine Below.setCell ?_ ?_ _) | go_size)))); intro K hK; go_simp; first | (refine hK _ ?_; clear hK K) | (refine ⟨_, fun _ _ => rfl, hK _ ?_⟩; clear hK K))
  (refine MW.q (T := fun _ => True) false (i := 20) rfl (by kernel_rfl) (.inl fun _ _ _ => trivial) (fun _ _ _ _ h => h) (by kernel_rfl) ?_ ?_; (focus ((try dsimp only [cond_false]); exact (by repeat' (first | (with_reducible exact Below.refl _ _) | (with_reducible assumption) | (with_reducible refine Below.alloc ?_ ?_ _) | (with_reducible refine below_drewN ?_ _) | (with_reducible refine Below.drew ?_) | (with_reducible refine Below.setCell ?_ ?_ _) | go_size)))); intro K hK; go_simp; first | (refine hK _ ?_; clear hK K) | (refine ⟨_, fun _ _ => rfl, hK _ ?_⟩; clear hK K))
  (refine MW.solo true (i := 21) rfl (by kernel_rfl) (by kernel_rfl) (by kernel_rfl) ?_; intro K hK; go_simp)
  have hF4 : Fr [bl] w3 (w3.setCell ⟨bl, 7, none⟩ (.slice A7 1 c7)) := (Fr.refl [bl] w3).setCell (p := ⟨bl, 7, none⟩) (.inl (by simp)) _
  refine hK _ _ (by dsimp only [cond_true]; exact (Fr.of_below hb3 [bl]).trans hF4) ?_
  clear hK K
  refine MW.done (by kernel_rfl) ?_
  simp only [List.drop_succ_cons, List.drop_zero]
  have hL4 := HL3.out.set_ 7 (.slice A7 1 c7)
  simp only [loadC, List.setIfInBounds_toArray, List.set_cons_succ, List.set_cons_zero] at hL4
  have hne : w1.heap.size ≠ bl := Blk.ne_ HX3.out HL3.out (by decide)
  have hX4 := HX3.out.far (p := ⟨bl, 7, none⟩) hne (.slice A7 1 c7)
  obtain ⟨W4, HW4⟩ : ∃ W4, Hid (w3.setCell ⟨bl, 7, none⟩ (.slice A7 1 c7) = W4) := ⟨_, Lib.hid rfl⟩
  rw [HW4.out] at hF4 hL4 hX4 ⊢
  have HL4 := Lib.hid hL4
  have HX4 := Lib.hid hX4
  have HF4 := Lib.hid hF4
  have hl4' := HL4.out.lt
  have hx4 := HX4.out.lt
  have hc4 := fun i => HL4.out.cell i
  have hf4 := fun i => HL4.out.frozen i
  have hx13 : W4.cell? ⟨w1.heap.size, 13, none⟩ = some (.int .i64 0) := by rw [HX4.out.cell 13]; simp only [recVal]; rw [Hn0.out]; rfl
  have hx14 : W4.cell? ⟨w1.heap.size, 14, none⟩ = some (.int .i64 0) := by rw [HX4.out.cell 14]; simp only [recVal]; rw [Hn0.out]; rfl
  clear hc3 hf3 hF4 hL4 hX4 HW4
  go_wp2_with go_in
  clear hc4 hf4 hx13 hx14
  have hL5 := HL4.out.sets [(8, .slice A8 1 c8), (5, .int .i64 0), (6, .int .i64 0), (2, .bool true), (9, .nilIface)]
  simp only [asets, List.setIfInBounds_toArray, List.set_cons_succ, List.set_cons_zero] at hL5
  refine bp_name (wset bl [(8, .slice A8 1 c8), (5, .int .i64 0), (6, .int .i64 0), (2, .bool true), (9, .nilIface)] W4) rfl ?_
  intro V5 HV5
  have hF5 : Fr [bl] w3 V5 := by rw [← HV5.out]; exact HF4.out.trans (Fr.sets bl _ W4)
  rw [HV5.out] at hL5
  clear HV5 HL4 HX4 HF4
  have HL5 := Lib.hid hL5
  clear hL5
  obtain ⟨g1, d1, hv1, _, _⟩ := HO1.out.form (by decide)
  obtain ⟨g2, d2, hv2, _, _⟩ := HO2.out.form (by decide)
  obtain ⟨rfl, rfl⟩ : A7 = some ⟨g1, 0, none⟩ ∧ c7 = d1 := by injection hv1 with a b c; exact ⟨a, c⟩
  obtain ⟨rfl, rfl⟩ : A8 = some ⟨g2, 0, none⟩ ∧ c8 = d2 := by injection hv2 with a b c; exact ⟨a, c⟩
  clear hv1 hv2
  have hfo : ∀ t, 203 ≠ t → FreeOf w3 [bl] t := fun t ht => freeOf_one HL3.out (Ne.symm ht)
  have HM5 := HM3.out.fr hF5 (HM3.out.off HL3.out (by decide) (by decide) (by decide) (by decide) (by decide) (by decide) (by decide) (by decide))
  have HR5 := HR3.out.fr hF5 (hfo _ (by decide)) (hfo _ (by decide))
  have HC5 := hF5.own HO1.out (hfo _ (by decide))
  have HD5 := hF5.own HO2.out (hfo _ (by decide))
  have HF5 := (HF3.out.mono (G := bl :: b.F) (by intro g hg; simp [hg])).trans (hF5.mono (by intro g hg; simp at hg; simp [hg]))
  go_ret
  refine ⟨rfl, g1, c7, g2, c8, ⟨S[n].s.r, .slice A3 S[n].s.r.rows.length c3, .slice A4 S[n].s.r.entries.length c4⟩, HL5.out, rfl, ⟨?_, ?_⟩, Reads.of_own HD5, HM5, HF5⟩
  · have := ownsRow_base HC5 (Nat.zero_le _)
    simpa [recCells] using this
  · intro x hx
    obtain rfl : x = _ := by simpa using hx
    exact HR5
end Go.Proofs.YthidclcliflhkaaGreat
end
section
open Go Go.RowKit
namespace Go.Proofs.YthidclcliflhkaaGreat

def zrec0 : Array Value := #[.int .i64 0, .string ⟨#[]⟩, .string ⟨#[]⟩, .bool false, .int .i64 0, .slice none 0 0, .slice none 0 0, .string ⟨#[]⟩, .string ⟨#[]⟩, .int .i64 0, .int .i64 0, .int .i64 0, .string ⟨#[]⟩, .int .i64 0, .int .i64 0]
abbrev SB (w0 w1 : World) : Prop := Below w0.heap.size w0 w1
theorem HW.lst {P : Program} {l : List Oper} {Q : Exit → Act → World → Prop} {Sc : World → Prop} {n f : Nat} {l1 : Array Bool} {a : Act} {w : World} (l2 : Array Bool) (e : (l1 == l2) = true) (h : HW P l Q Sc n f l2 a w) : HW P l Q Sc n f l1 a w := by
  rw [eq_of_beq e]; exact h
theorem wp_append_nil {P : Program} {o : Oper} {a : Act} {w : World} {K : Act → World → Prop} {Q : Exit → Act → World → Prop} (s x : Operand) (t : TypeId)
    (ho : o.op = .call { callee := .builtin .append, args := #[s, x], argTypes := #[t, t] })
    (base : Nat) (e : TypeId) (i : TypeInfo) (size : Nat) (ht : P.underlying t = some (.slice e)) (hi : P.info? e = some i)
    (v : Value) (n : Nat) (xs : List Value) (hs : a.eval s = v) (hown : w.ownsRow base e size v n xs) (c : Nat) (hx : a.eval x = .slice none 0 c) (h : K (a.put o.dst v) w) : o.wp P a w K Q := by
  have hrun := run_append_of_nil (P := P) w base t o.type e i size ht hi v n xs hown c
  unfold Oper.wp execOp
  simp only [ho, resolve, invoke, builtin, Sem.run_bind, Sem.run_pure, Result.andThen_ok, List.map_toArray, List.map_cons, List.map_nil, hs, hx, hrun]
  exact h
theorem own_of_blk {w : World} {g : Nat} {e : TypeId} {cs : Array Value} (h : Blk w g e cs) (base size n c : Nat) (hb : base ≤ g) (hc : cs.size = c * size) (hn : n ≤ c) (hm : c ≤ maxLen) : w.ownsRow base e size (.slice (some ⟨g, 0, none⟩) n c) n (cs.toList.take (n * size)) :=
  ⟨by rw [List.length_take, Array.length_toList, hc]; exact Nat.min_eq_left (Nat.mul_le_mul_right _ hn), .inr ⟨g, c, cs, rfl, hb, h, hn, hm, hc, rfl⟩⟩
def recN (r : Rl.Rec) (os og : Int) : Rl.Rec := { r with next := ⟨os, og⟩ }
def onlyFn (br : Nat) : Value := .func (.func 148) #[] #[.pointer (some ⟨br, 0, none⟩)]
def jobVal (pn os og news : Int) (mk : Value) : Array Value := #[.int .i64 pn, .int .i64 os, .int .i64 og, .int .i64 news, mk]
set_option maxRecDepth 100000 in
set_option maxHeartbeats 1000000 in
theorem only1_any (br : Nat) (r : Rl.Rec) (A1 A2 : Option Addr) (m1 c1 m2 c2 : Nat) (pv : Value) (w : World) (hR : Blk w br 83 (recVal r (.slice A1 m1 c1) (.slice A2 m2 c2))) :
    Calls Tryz.prog 148 #[pv, .pointer (some ⟨br, 0, none⟩)] w (RetB (.tuple #[.slice none 0 0, .agg (recVal r (.slice A1 m1 c1) (.slice A2 m2 c2))]) w) := by
  have HR := Lib.hid hR
  clear hR
  go_enter Tryz.func148, Tryz.ntmps148
  go_wp2_with fail
  refine wp_name ?_
  intro V HV
  have HRV := Lib.hid (show Blk V br 83 (recVal r (.slice A1 m1 c1) (.slice A2 m2 c2)) by rw [← HV.out]; exact HR.out.alloc _)
  have HZV := Lib.hid (show Blk V w.heap.size 83 zrec0 by rw [← HV.out]; exact Blk.new_at rfl)
  have hbV : Below w.heap.size w V := by rw [← HV.out]; exact (by repeat' (first | (with_reducible exact Below.refl _ _) | (with_reducible assumption) | (with_reducible refine Below.alloc ?_ ?_ _) | (with_reducible refine below_drewN ?_ _) | (with_reducible refine Below.drew ?_) | (with_reducible refine Below.setCell ?_ ?_ _) | go_size))
  clear HV
  have hrV := HRV.out.lt
  refine wp_region_head 2 (SB V) (by kernel_rfl) (by kernel_rfl) ?_
  (refine HW.q (i := 1) rfl (by kernel_rfl) (fun _ _ _ _ h => h) ?_ ?_; (focus ((try dsimp only); exact (by repeat' (first | (with_reducible exact Below.refl _ _) | (with_reducible assumption) | (with_reducible refine Below.alloc ?_ ?_ _) | (with_reducible refine below_drewN ?_ _) | (with_reducible refine Below.drew ?_) | (with_reducible refine Below.setCell ?_ ?_ _) | go_size)))); intro K hK; go_simp; first | (refine hK _ ?_; clear hK K) | (refine ⟨_, fun _ _ => rfl, hK _ ?_⟩; clear hK K))
  refine HW.q (i := 0) rfl (by kernel_rfl) (fun _ _ _ _ h => h) ?_ ?_
  · exact (by repeat' (first | (with_reducible exact Below.refl _ _) | (with_reducible assumption) | (with_reducible refine Below.alloc ?_ ?_ _) | (with_reducible refine below_drewN ?_ _) | (with_reducible refine Below.drew ?_) | (with_reducible refine Below.setCell ?_ ?_ _) | go_size))
  intro K hK
  refine held_load_arr (by kernel_rfl) 83 _ rfl br 0 rfl (recVal r (.slice A1 m1 c1) (.slice A2 m2 c2)) _ (fun w2 hw2 => (HRV.out.below (show Below V.heap.size V w2 from hw2) hrV).rangeArr) Tryz.underlying83 rfl (by kernel_rfl) ?_
  refine hK _ ?_
  clear hK K
  refine HW.done (by kernel_rfl) ?_
  simp only [List.drop_succ_cons, List.drop_zero]
  refine wpList_store_mid rfl 83 _ _ rfl w.heap.size 0 (recVal r (.slice A1 m1 c1) (.slice A2 m2 c2)) rfl rfl (HZV.out.drew.there 0 15 (by simp [zrec0])) (by kernel_rfl) (rec_all _ _ _ _ _ _ _) ?_
  have hZ := HZV.out.drew.setCs (recVal r (.slice A1 m1 c1) (.slice A2 m2 c2)).toList V.drew 0
  have hb2 : Below w.heap.size w (V.drew.setCells w.heap.size 0 (recVal r (.slice A1 m1 c1) (.slice A2 m2 c2)).toList) := below_setCs (g := w.heap.size) (B := w.heap.size) _ _ _ hbV.drew (Nat.le_refl _)
  obtain ⟨V2, HV2⟩ : ∃ V2, Hid (V.drew.setCells w.heap.size 0 (recVal r (.slice A1 m1 c1) (.slice A2 m2 c2)).toList = V2) := ⟨_, Lib.hid rfl⟩
  rw [HV2.out] at hZ hb2 ⊢
  simp only [recVal, setN, zrec0, List.set_cons_zero, List.set_cons_succ] at hZ
  have hZ2 := Lib.hid (show Blk V2 w.heap.size 83 (recVal r (.slice A1 m1 c1) (.slice A2 m2 c2)) from hZ)
  clear HV2 hZ
  go_wp2_with fail
  exact bodyPost_ret (v := .tuple #[.slice none 0 0, .agg (recVal r (.slice A1 m1 c1) (.slice A2 m2 c2))]) (results_tmp_cell rfl rfl hZ2.out Tryz.underlying83 rfl (by kernel_rfl) rfl) rfl ⟨rfl, hb2⟩
set_option maxRecDepth 100000 in
set_option maxHeartbeats 1000000 in
theorem only_any (pn os og : Int) (r : Rl.Rec) (A1 A2 : Option Addr) (m1 c1 m2 c2 : Nat) (w : World) :
    Calls Tryz.prog 119 #[.int .i64 pn, .agg #[.int .i64 os, .int .i64 og], .agg (recVal r (.slice A1 m1 c1) (.slice A2 m2 c2))] w fun e w' => ∃ br, e = .returned (.agg (jobVal pn os og 0 (onlyFn br))) ∧
      Blk w' br 83 (recVal (recN r os og) (.slice A1 m1 c1) (.slice A2 m2 c2)) ∧ Below w.heap.size w w' := by
  unfold recVal
  go_enter Tryz.func119, Tryz.ntmps119
  go_wp2_with fail
  refine bp_name _ rfl ?_
  intro V HV
  have hJ : Blk V (w.heap.size + 1 + 1) 221 (jobVal pn os og 0 (onlyFn (w.heap.size + 1))) := by rw [← HV.out]; exact Blk.new_at (by first | (simp; done) | (simp; omega) | omega)
  have hR : Blk V (w.heap.size + 1) 83 (recVal (recN r os og) (.slice A1 m1 c1) (.slice A2 m2 c2)) := by rw [← HV.out]; exact Blk.alloc (Blk.new_at (by first | (simp; done) | (simp; omega) | omega)) _
  have hb : Below w.heap.size w V := by rw [← HV.out]; exact (by repeat' (first | (with_reducible exact Below.refl _ _) | (with_reducible assumption) | (with_reducible refine Below.alloc ?_ ?_ _) | (with_reducible refine below_drewN ?_ _) | (with_reducible refine Below.drew ?_) | (with_reducible refine Below.setCell ?_ ?_ _) | go_size))
  exact bodyPost_ret (v := .agg (jobVal pn os og 0 (onlyFn (w.heap.size + 1)))) (results_cell rfl rfl hJ Tryz.underlying221 rfl (by kernel_rfl)) rfl ⟨w.heap.size + 1, rfl, hR, hb⟩
end Go.Proofs.YthidclcliflhkaaGreat
end
