/- Steps of an installer; a thread that installs, leaves: contracts. An insert at its leaf: contract. -/
import Derived.Test.YthidclcliflhkaaGreatZ08
import Derived.Test.YthidclcliflhkaaGreatZ16
section
open Go Go.RowKit
namespace Go.Proofs.YthidclcliflhkaaGreat

set_option maxRecDepth 100000 in
set_option maxHeartbeats 1000000 in
theorem istep_fwd (bi : Nat) (stage : Int) (m : Value) (x : Bool) (R : World → Prop) (w : World) (h5 : w.cell? ⟨bi, 5, none⟩ = some (.int .i64 stage)) (s5 : ¬ stage = 5) (s6 : ¬ stage = 6) (s7 : ¬ stage = 7)
    (hf : Calls Tryz.prog 165 #[.pointer (some ⟨bi, 0, none⟩), m] w fun e w' => e = .returned (.bool x) ∧ R w') :
    Calls Tryz.prog 146 #[.pointer (some ⟨bi, 0, none⟩), m] w fun e w' => e = .returned (.bool x) ∧ R w' := by
  have HF := Lib.hid hf
  clear hf
  go_enter Tryz.func146, Tryz.ntmps146
  go_wp2_with (first
    | (go_at_call 164
       refine (over_no bi stage _ (by go_simp) s7).mono ?_
       rintro e w2 ⟨rfl, rfl⟩)
    | (go_at_call 165
       refine HF.out.mono ?_
       rintro e w2 ⟨rfl, hR⟩))
  go_ret
  exact ⟨rfl, hR⟩
set_option maxRecDepth 100000 in
set_option maxHeartbeats 1000000 in
theorem idone_any (bi : Nat) (pn os og news : Int) (mk : Value) (pv bv : Value) (r : Rl.Rec) (rv ev rf : Value) (at_ : Int) (done : Bool) (er : Value) (w : World)
    (hI : Blk w bi 257 (instC pn os og news mk 7 pv bv r rv ev rf at_ done er)) :
    Calls Tryz.prog 147 #[.pointer (some ⟨bi, 0, none⟩)] w (RetB (.tuple #[.bool done, er]) w) := by
  have hlt := hI.lt
  have hcI := fun i => hI.cell i
  simp only [instC] at hcI
  have HI := Lib.hid hI
  clear hI
  go_enter Tryz.func147, Tryz.ntmps147
  go_wp2_with (go_at_call 164
               refine (over_yes bi _ (by go_simp)).mono ?_
               rintro e w2 ⟨rfl, rfl⟩)
  go_quiet (fail)
  go_wp2_with fail
  refine bodyPost_ret (v := .tuple #[.bool done, er]) (by simp [results, Tryz.results147, go_sem]) rfl ⟨rfl, (by repeat' (first | (with_reducible exact Below.refl _ _) | (with_reducible assumption) | (with_reducible refine Below.alloc ?_ ?_ _) | (with_reducible refine below_drewN ?_ _) | (with_reducible refine Below.drew ?_) | (with_reducible refine Below.setCell ?_ ?_ _) | go_size))⟩
def instFn (bq bx bh : Nat) : Value := .func (.func 145) #[] #[.pointer (some ⟨bq, 0, none⟩), .pointer (some ⟨bx, 0, none⟩), .pointer (some ⟨bh, 0, none⟩)]
/-- A thread that installs a record on a page. -/
structure Insts (w : World) (bt : Nat) (pn os og : Int) (stage : Int) (r : Rl.Rec) (A1 : Option Addr) (m1 c1 : Nat) (A2 : Option Addr) (m2 c2 : Nat) (br : Nat) (rf : Value) (n : Int) (bg : Bool) (kind : Int) (key val : ByteArray) (wr : Bool) (rs : ByteArray) (re : Value) (thn : Value) (bi bq bx bh : Nat) : Prop where
  i : Blk w bi 257 (instC pn os og 0 (onlyFn br) stage (.slice none 0 0) (.slice none 0 0) r (.slice A1 m1 c1) (.slice A2 m2 c2) rf 0 false .nilIface)
  q : Blk w bq 244 #[.pointer (some ⟨bi, 0, none⟩)]
  x : Blk w bx 25 #[.pointer (some ⟨bt, 0, none⟩)]
  h : Blk w bh 223 #[thn]
  t : Blk w bt 66 (thrC n bg kind key val wr rs re (instFn bq bx bh))
set_option maxRecDepth 100000 in
set_option maxHeartbeats 1000000 in
theorem tinstall_ok (bt : Nat) (pn os og : Int) (r : Rl.Rec) (A1 : Option Addr) (m1 c1 : Nat) (A2 : Option Addr) (m2 c2 : Nat) (br : Nat) (n : Int) (bg : Bool) (kind : Int) (key val : ByteArray) (wr : Bool) (rs : ByteArray) (re nx : Value) (f : Fn) (fa fb : Array Value) (w : World)
    (hT : Blk w bt 66 (thrC n bg kind key val wr rs re nx)) (hR : Blk w br 83 (recVal r (.slice A1 m1 c1) (.slice A2 m2 c2))) :
    Calls Tryz.prog 118 #[.pointer (some ⟨bt, 0, none⟩), .agg (jobVal pn os og 0 (onlyFn br)), .func f fa fb] w fun e w' => e = .returned (.bool false) ∧ ∃ bi bq bx bh,
      Insts w' bt pn os og 3 r A1 m1 c1 A2 m2 c2 br (.slice none 0 0) n bg kind key val wr rs re (.func f fa fb) bi bq bx bh ∧ w.heap.size ≤ bi ∧ Fr [bt] w w' := by
  have hlt := hT.lt
  have HT := Lib.hid hT
  have HR := Lib.hid hR
  clear hT hR
  unfold jobVal onlyFn
  go_enter Tryz.func118, Tryz.ntmps118
  go_wp2_with (first
    | (go_at_call 144
       refine (ibegin_ok br pn os og r A1 A2 m1 c1 m2 c2 _ (((HR.out.alloc _).alloc _).alloc _)).mono ?_
       rintro e w1 ⟨bi, rfl, hbi, hI1, hb1⟩
       have HT1 := Lib.hid (Blk.below (((HT.out.alloc _).alloc _).alloc _) hb1 (by first | (simp; done) | (simp; omega) | omega))
       have HX1 := Lib.hid (Blk.below (Blk.alloc (Blk.alloc (Blk.new_at (X := w) (b := w.heap.size) rfl) _) _) hb1 (by first | (simp; done) | (simp; omega) | omega))
       have HH1 := Lib.hid (Blk.below (Blk.new_at (b := w.heap.size + 1 + 1) (by first | (simp; done) | (simp; omega) | omega)) hb1 (by first | (simp; done) | (simp; omega) | omega))
       have HI1 := Lib.hid hI1
       have hbw : Below w.heap.size w w1 := below_to (by repeat' (first | (with_reducible exact Below.refl _ _) | (with_reducible assumption) | (with_reducible refine Below.alloc ?_ ?_ _) | (with_reducible refine below_drewN ?_ _) | (with_reducible refine Below.drew ?_) | (with_reducible refine Below.setCell ?_ ?_ _) | go_size)) hb1
       have hs1 : w.heap.size + 1 + 1 < w1.heap.size := by have := hb1.size; simp at this; omega
       have hx1 := HX1.out.lt
       have ht1 := HT1.out.lt
       have hcT := fun i => HT1.out.cell i
       have hfT := fun i => HT1.out.frozen i
       have hcX := fun i => HX1.out.cell i
       simp only [thrC] at hcT
       clear hI1 hb1)
    | go_in)
  have hY := HT1.out.set_ 11 (instFn w1.heap.size w.heap.size (w.heap.size + 1 + 1))
  simp only [thrC, List.setIfInBounds_toArray, List.set_cons_succ, List.set_cons_zero] at hY
  have hFX : Fr [bt] w1 (w1.setCell ⟨bt, 11, none⟩ (instFn w1.heap.size w.heap.size (w.heap.size + 1 + 1))) := (Fr.refl _ _).setCell (p := ⟨bt, 11, none⟩) (.inl (by simp)) _
  have hX2 := HX1.out.far (p := ⟨bt, 11, none⟩) (by simp; omega) (instFn w1.heap.size w.heap.size (w.heap.size + 1 + 1))
  have hH2 := HH1.out.far (p := ⟨bt, 11, none⟩) (by simp; omega) (instFn w1.heap.size w.heap.size (w.heap.size + 1 + 1))
  have hI2 := HI1.out.far (p := ⟨bt, 11, none⟩) (by simp at hbi ⊢; omega) (instFn w1.heap.size w.heap.size (w.heap.size + 1 + 1))
  have hF2 : Fr [bt] w (w1.setCell ⟨bt, 11, none⟩ (instFn w1.heap.size w.heap.size (w.heap.size + 1 + 1))) := (Fr.of_below hbw [bt]).trans hFX
  go_ret
  exact ⟨rfl, bi, w1.heap.size, w.heap.size, w.heap.size + 1 + 1, ⟨Blk.alloc hI2 _, Blk.new_at (by simp [World.setCell]), hX2.alloc _, hH2.alloc _, Blk.alloc (show Blk _ bt _ (thrC n bg kind key val wr rs re (instFn w1.heap.size w.heap.size (w.heap.size + 1 + 1))) from hY) _⟩, by simp at hbi; omega, hF2.alloc _⟩
set_option maxRecDepth 100000 in
set_option maxHeartbeats 1000000 in
theorem told_ok (bt : Nat) (n : Int) (bg : Bool) (kind : Int) (key val : ByteArray) (wr : Bool) (rs : ByteArray) (re nx : Value) (rs' : ByteArray) (w : World) (hT : Blk w bt 66 (thrC n bg kind key val wr rs re nx)) :
    Calls Tryz.prog 39 #[.pointer (some ⟨bt, 0, none⟩), .agg #[.string rs', .nilIface]] w fun e w' => (∃ v, e = .returned v) ∧ Blk w' bt 66 (thrC n bg kind key val wr rs' .nilIface nx) ∧ Fr [bt] w w' := by
  have hlt := hT.lt
  have hcT := fun i => hT.cell i
  have hfT := fun i => hT.frozen i
  simp only [thrC] at hcT
  have HT := Lib.hid hT
  clear hT
  go_enter Tryz.func39, Tryz.ntmps39
  go_wp2_with fail
  have hY := HT.out.sets [(7, .string rs'), (8, .nilIface)]
  simp only [asets, thrC, List.setIfInBounds_toArray, List.set_cons_succ, List.set_cons_zero] at hY
  have hY := Blk.alloc hY (.cells #[.string rs', .nilIface] 29)
  have hF : Fr [bt] w ((wset bt [(7, .string rs'), (8, .nilIface)] w).alloc (.cells #[.string rs', .nilIface] 29)) := (Fr.sets bt _ w).alloc _
  go_end0
  exact ⟨⟨_, rfl⟩, hY, hF⟩
def leaveFn (bx : Nat) : Value := .func (.func 113) #[] #[.pointer (some ⟨bx, 0, none⟩)]
set_option maxRecDepth 100000 in
set_option maxHeartbeats 1000000 in
theorem leave_ok (bt : Nat) (n : Int) (bg : Bool) (kind : Int) (key val : ByteArray) (wr : Bool) (rs : ByteArray) (re nx : Value) (rs' : ByteArray) (w : World) (hT : Blk w bt 66 (thrC n bg kind key val wr rs re nx)) :
    Calls Tryz.prog 102 #[.pointer (some ⟨bt, 0, none⟩), .agg #[.string rs', .nilIface]] w fun e w' => e = .returned (.bool false) ∧ ∃ bx, Blk w' bx 25 #[.pointer (some ⟨bt, 0, none⟩)] ∧ Blk w' bt 66 (thrC n bg kind key val wr rs' .nilIface (leaveFn bx)) ∧ Fr [bt] w w' := by
  have hlt := hT.lt
  have HT := Lib.hid hT
  clear hT
  go_enter Tryz.func102, Tryz.ntmps102
  go_wp2_with (first
    | (go_at_call 39
       refine (told_ok bt n bg kind key val wr rs re nx rs' _ ((HT.out.alloc _).alloc _)).mono ?_
       rintro e w1 ⟨⟨v1, rfl⟩, hT1, hF1⟩
       have HT1 := Lib.hid hT1
       have hne : w.heap.size ∉ [bt] := by simp; omega
       have h0x : Blk ((w.alloc (.cells #[.pointer (some ⟨bt, 0, none⟩)] 25)).alloc (.cells #[.string rs', .nilIface] 29)) w.heap.size 25 #[.pointer (some ⟨bt, 0, none⟩)] := Blk.alloc (Blk.new_at rfl) _
       have HX1 := Lib.hid (hF1.blk h0x hne)
       have HF1 := Lib.hid ((((Fr.refl [bt] w).alloc _).alloc _).trans hF1)
       have hx1 := HX1.out.lt
       have ht1 := HT1.out.lt
       have hcT := fun i => HT1.out.cell i
       have hfT := fun i => HT1.out.frozen i
       have hcX := fun i => HX1.out.cell i
       simp only [thrC] at hcT
       clear hT1 hF1 h0x)
    | go_in)
  have hY := HT1.out.set_ 11 (leaveFn w.heap.size)
  simp only [thrC, List.setIfInBounds_toArray, List.set_cons_succ, List.set_cons_zero] at hY
  have hX2 := HX1.out.far (p := ⟨bt, 11, none⟩) (by simp; omega) (leaveFn w.heap.size)
  have hF2 : Fr [bt] w (w1.setCell ⟨bt, 11, none⟩ (leaveFn w.heap.size)) := HF1.out.setCell (p := ⟨bt, 11, none⟩) (.inl (by simp)) _
  go_ret
  exact ⟨rfl, w.heap.size, hX2, hY, hF2⟩
set_option maxRecDepth 100000 in
set_option maxHeartbeats 1000000 in
theorem leave1_ok (bt bx : Nat) (n : Int) (bg : Bool) (kind : Int) (key val : ByteArray) (wr : Bool) (rs : ByteArray) (re nx : Value) (b : MB) (lim : Rl.Limits) (count : Int) (S : List SlotV) (T : List Rl.Pg) (now : Int) (k : Nat) (D : DataW Unit) (w : World)
    (hT : Blk w bt 66 (thrC n bg kind key val wr rs re nx)) (hX : Blk w bx 25 #[.pointer (some ⟨bt, 0, none⟩)]) (hM : MemAt w b lim count S T now k D) (ht : 0 ≤ n) (ht2 : n < lim.threads) (ht3 : lim.threads ≤ 64) (hin : Maps.has D (.int .i64 n) = true) (hc0 : 0 ≤ count) (hc1 : count ≤ 1099511627776) :
    Calls Tryz.prog 113 #[.pointer (some ⟨b.m, 0, none⟩), .pointer (some ⟨bx, 0, none⟩)] w fun e w' => e = .returned (.bool true) ∧ Blk w' bt 66 (thrC n bg kind key val wr rs re .nilFunc) ∧
      MemAt w' b lim (count + 1) S T now k (D.del (.int .i64 n)) ∧ Fr (bt :: b.F) w w' := by
  have hO := hM.off hT (by decide) (by decide) (by decide) (by decide) (by decide) (by decide) (by decide) (by decide)
  have hOX := hM.off hX (by decide) (by decide) (by decide) (by decide) (by decide) (by decide) (by decide) (by decide)
  have hcT := fun i => hT.cell i
  have hcX := fun i => hX.cell i
  simp only [thrC] at hcT
  have hlt := hT.lt
  have hltx := hX.lt
  have HT := Lib.hid hT
  have HX := Lib.hid hX
  have HM := Lib.hid hM
  clear hT hX hM
  go_enter Tryz.func113, Tryz.ntmps113
  go_wp2_with (first
    | (go_at_call 114
       refine (mleave_ok b lim count S T now k D n _ HM.out ht ht2 ht3 hin hc0 hc1).mono ?_
       rintro e w1 ⟨rfl, hM1, hF1⟩
       have HT1 := Lib.hid (hF1.blk HT.out hO.notF)
       have HX1 := Lib.hid (hF1.blk HX.out hOX.notF)
       have HM1 := Lib.hid hM1
       have HF1 := Lib.hid hF1
       have hx1 := HX1.out.lt
       have ht1 := HT1.out.lt
       clear hcT hcX hM1 hF1
       have hcT := fun i => HT1.out.cell i
       have hfT := fun i => HT1.out.frozen i
       have hcX := fun i => HX1.out.cell i
       simp only [thrC] at hcT)
    | go_in)
  have hY := HT1.out.set_ 11 .nilFunc
  simp only [thrC, List.setIfInBounds_toArray, List.set_cons_succ, List.set_cons_zero] at hY
  have hF2 : Fr [bt] w1 (w1.setCell ⟨bt, 11, none⟩ .nilFunc) := (Fr.refl _ _).setCell (p := ⟨bt, 11, none⟩) (.inl (by simp)) _
  have hM2 := HM1.out.fr hF2 (HM1.out.off HT1.out (by decide) (by decide) (by decide) (by decide) (by decide) (by decide) (by decide) (by decide))
  have hFF := (HF1.out.mono (G := bt :: b.F) (by intro g hg; simp [hg])).trans (hF2.mono (by intro g hg; simp at hg; simp [hg]))
  go_ret
  exact ⟨rfl, hY, hM2, hFF⟩
def actFn (bx bo : Nat) : Value := .func (.func 128) #[] #[.pointer (some ⟨bx, 0, none⟩), .pointer (some ⟨bo, 0, none⟩)]
set_option maxRecDepth 100000 in
set_option maxHeartbeats 1000000 in
theorem act1_ok (bt bx bo : Nat) (n : Int) (bg : Bool) (kind : Int) (key val : ByteArray) (wr : Bool) (rs : ByteArray) (re nx : Value) (rs' : ByteArray) (w : World) (hT : Blk w bt 66 (thrC n bg kind key val wr rs re nx))
    (hX : Blk w bx 25 #[.pointer (some ⟨bt, 0, none⟩)]) (hO : Blk w bo 29 #[.string rs', .nilIface]) :
    Calls Tryz.prog 128 #[.bool true, .pointer (some ⟨bx, 0, none⟩), .pointer (some ⟨bo, 0, none⟩)] w fun e w' => e = .returned (.bool false) ∧ ∃ bx, Blk w' bx 25 #[.pointer (some ⟨bt, 0, none⟩)] ∧ Blk w' bt 66 (thrC n bg kind key val wr rs' .nilIface (leaveFn bx)) ∧ Fr [bt] w w' := by
  have hltx := hX.lt
  have hlto := hO.lt
  have hcX := fun i => hX.cell i
  have hcO := fun i => hO.cell i
  have HT := Lib.hid hT
  clear hT hX hO
  go_enter Tryz.func128, Tryz.ntmps128
  go_wp2_with (go_at_call 102
               refine (leave_ok bt n bg kind key val wr rs re nx rs' _ HT.out).mono ?_
               rintro e w1 ⟨rfl, bx2, hX2, hT2, hF2⟩)
  go_ret
  exact ⟨rfl, bx2, hX2, hT2, hF2⟩
end Go.Proofs.YthidclcliflhkaaGreat
end
section
open Go Go.RowKit
namespace Go.Proofs.YthidclcliflhkaaGreat

set_option maxRecDepth 100000 in
set_option maxHeartbeats 4000000 in
theorem act_ins (bt : Nat) (pn hs hg : Int) (A3 : Option Addr) (n3 c3 : Nat) (A4 : Option Addr) (n4 c4 : Nat) (v : Rl.LeafView) (rv : Value) (n : Int) (bg : Bool) (key val : ByteArray) (wr : Bool) (rs : ByteArray) (re nx : Value) (w : World)
    (hT : Blk w bt 66 (thrC n bg 2 key val wr rs re nx)) (hV : OwnV w 0 rv v.rows) (hok : RowsOk v.rows) (hk : key.size ≤ maxLen) (hn : Rl.rowsThere v.rows key = false) :
    Calls Tryz.prog 106 #[.pointer (some ⟨bt, 0, none⟩), .agg (pageVal pn hs hg (.slice A3 n3 c3) (.slice A4 n4 c4) true v rv)] w fun e w' => e = .returned (.bool false) ∧ ∃ br bi bq bx bh bo bxa,
      Insts w' bt pn hs hg 3 (recN { kind := 2, key := key, value := val } hs hg) none 0 0 none 0 0 br (.slice none 0 0) n bg 2 key val wr rs re (actFn bxa bo) bi bq bx bh ∧
      Blk w' bxa 25 #[.pointer (some ⟨bt, 0, none⟩)] ∧ Blk w' bo 29 #[.string ⟨#[]⟩, .nilIface] ∧ w.heap.size ≤ bi ∧ Fr [bt] w w' := by
  obtain ⟨AV, cV, rfl, hlV, hoV⟩ := hV
  have hlt := hT.lt
  have HT := Lib.hid hT
  have HO := Lib.hid hoV
  have hcT := fun i => hT.cell i
  simp only [thrC] at hcT
  clear hT hoV
  go_enter Tryz.func106, Tryz.ntmps106
  go_wp2_with fail
  refine wp_name ?_
  intro V HV
  have hBV := Lib.hid (show Blk V w.heap.size 25 #[.pointer (some ⟨bt, 0, none⟩)] by rw [← HV.out]; exact Blk.alloc (Blk.new_at rfl) _)
  have hPV := Lib.hid (show Blk V (w.heap.size + 1) 128 (pageVal pn hs hg (.slice A3 n3 c3) (.slice A4 n4 c4) true v (.slice AV v.rows.length cV)) by rw [← HV.out]; exact Blk.new_at (by simp))
  have hbV : Below w.heap.size w V := by rw [← HV.out]; exact (by repeat' (first | (with_reducible exact Below.refl _ _) | (with_reducible assumption) | (with_reducible refine Below.alloc ?_ ?_ _) | (with_reducible refine below_drewN ?_ _) | (with_reducible refine Below.drew ?_) | (with_reducible refine Below.setCell ?_ ?_ _) | go_size))
  clear HV hcT
  have hTV := Lib.hid (HT.out.below hbV hlt)
  have hOV := Lib.hid (ownsRow_keep HO.out hbV)
  have hbl := hBV.out.lt
  have hpl := hPV.out.lt
  have htl := hTV.out.lt
  have hcB := fun i => hBV.out.cell i
  have hcP := fun i => hPV.out.cell i
  have hcT := fun i => hTV.out.cell i
  simp only [thrC] at hcT
  simp only [pageVal] at hcP
  have hws := hbV.size
  refine wp_region_head 12 (SB V) (by kernel_rfl) (by kernel_rfl) ?_
  (refine HW.q (i := 0) rfl (by kernel_rfl) (fun _ _ _ _ h => h) ?_ ?_; (focus ((try dsimp only); exact (by repeat' (first | (with_reducible exact Below.refl _ _) | (with_reducible assumption) | (with_reducible refine Below.alloc ?_ ?_ _) | (with_reducible refine below_drewN ?_ _) | (with_reducible refine Below.drew ?_) | (with_reducible refine Below.setCell ?_ ?_ _) | go_size)))); intro K hK; go_simp; apply Exists.intro; refine ⟨fun w2 hw2 => ?_, hK _ ?_⟩; (focus (obtain ⟨hc2, hf2⟩ := bcell hw2; go_simp; first | done | rfl)); clear hK K)
  (refine HW.q (i := 1) rfl (by kernel_rfl) (fun _ _ _ _ h => h) ?_ ?_; (focus ((try dsimp only); exact (by repeat' (first | (with_reducible exact Below.refl _ _) | (with_reducible assumption) | (with_reducible refine Below.alloc ?_ ?_ _) | (with_reducible refine below_drewN ?_ _) | (with_reducible refine Below.drew ?_) | (with_reducible refine Below.setCell ?_ ?_ _) | go_size)))); intro K hK; go_simp; first | (refine hK _ ?_; clear hK K) | (refine ⟨_, fun _ _ => rfl, hK _ ?_⟩; clear hK K))
  (refine HW.q (i := 2) rfl (by kernel_rfl) (fun _ _ _ _ h => h) ?_ ?_; (focus ((try dsimp only); exact (by repeat' (first | (with_reducible exact Below.refl _ _) | (with_reducible assumption) | (with_reducible refine Below.alloc ?_ ?_ _) | (with_reducible refine below_drewN ?_ _) | (with_reducible refine Below.drew ?_) | (with_reducible refine Below.setCell ?_ ?_ _) | go_size)))); intro K hK; go_simp; first | (refine hK _ ?_; clear hK K) | (refine ⟨_, fun _ _ => rfl, hK _ ?_⟩; clear hK K))
  (refine HW.q (i := 3) rfl (by kernel_rfl) (fun _ _ _ _ h => h) ?_ ?_; (focus ((try dsimp only); exact (by repeat' (first | (with_reducible exact Below.refl _ _) | (with_reducible assumption) | (with_reducible refine Below.alloc ?_ ?_ _) | (with_reducible refine below_drewN ?_ _) | (with_reducible refine Below.drew ?_) | (with_reducible refine Below.setCell ?_ ?_ _) | go_size)))); intro K hK; go_simp; first | (refine hK _ ?_; clear hK K) | (refine ⟨_, fun _ _ => rfl, hK _ ?_⟩; clear hK K))
  (refine HW.q (i := 4) rfl (by kernel_rfl) (fun _ _ _ _ h => h) ?_ ?_; (focus ((try dsimp only); exact (by repeat' (first | (with_reducible exact Below.refl _ _) | (with_reducible assumption) | (with_reducible refine Below.alloc ?_ ?_ _) | (with_reducible refine below_drewN ?_ _) | (with_reducible refine Below.drew ?_) | (with_reducible refine Below.setCell ?_ ?_ _) | go_size)))); intro K hK; go_simp; apply Exists.intro; refine ⟨fun w2 hw2 => ?_, hK _ ?_⟩; (focus (obtain ⟨hc2, hf2⟩ := bcell hw2; go_simp; first | done | rfl)); clear hK K)
  (refine HW.q (i := 5) rfl (by kernel_rfl) (fun _ _ _ _ h => h) ?_ ?_; (focus ((try dsimp only); exact (by repeat' (first | (with_reducible exact Below.refl _ _) | (with_reducible assumption) | (with_reducible refine Below.alloc ?_ ?_ _) | (with_reducible refine below_drewN ?_ _) | (with_reducible refine Below.drew ?_) | (with_reducible refine Below.setCell ?_ ?_ _) | go_size)))); intro K hK; go_simp; apply Exists.intro; refine ⟨fun w2 hw2 => ?_, hK _ ?_⟩; (focus (obtain ⟨hc2, hf2⟩ := bcell hw2; go_simp; first | done | rfl)); clear hK K)
  (refine HW.q (i := 6) rfl (by kernel_rfl) (fun _ _ _ _ h => h) ?_ ?_; (focus ((try dsimp only); exact (by repeat' (first | (with_reducible exact Below.refl _ _) | (with_reducible assumption) | (with_reducible refine Below.alloc ?_ ?_ _) | (with_reducible refine below_drewN ?_ _) | (with_reducible refine Below.drew ?_) | (with_reducible refine Below.setCell ?_ ?_ _) | go_size)))); intro K hK; go_simp; first | (refine hK _ ?_; clear hK K) | (refine ⟨_, fun _ _ => rfl, hK _ ?_⟩; clear hK K))
  (refine HW.q (i := 7) rfl (by kernel_rfl) (fun _ _ _ _ h => h) ?_ ?_; (focus ((try dsimp only); exact (by repeat' (first | (with_reducible exact Below.refl _ _) | (with_reducible assumption) | (with_reducible refine Below.alloc ?_ ?_ _) | (with_reducible refine below_drewN ?_ _) | (with_reducible refine Below.drew ?_) | (with_reducible refine Below.setCell ?_ ?_ _) | go_size)))); intro K hK; go_simp; first | (refine hK _ ?_; clear hK K) | (refine ⟨_, fun _ _ => rfl, hK _ ?_⟩; clear hK K))
  (refine HW.q (i := 8) rfl (by kernel_rfl) (fun _ _ _ _ h => h) ?_ ?_; (focus ((try dsimp only); exact (by repeat' (first | (with_reducible exact Below.refl _ _) | (with_reducible assumption) | (with_reducible refine Below.alloc ?_ ?_ _) | (with_reducible refine below_drewN ?_ _) | (with_reducible refine Below.drew ?_) | (with_reducible refine Below.setCell ?_ ?_ _) | go_size)))); intro K hK; go_simp; first | (refine hK _ ?_; clear hK K) | (refine ⟨_, fun _ _ => rfl, hK _ ?_⟩; clear hK K))
  (refine HW.q (i := 9) rfl (by kernel_rfl) (fun _ _ _ _ h => h) ?_ ?_; (focus ((try dsimp only); exact (by repeat' (first | (with_reducible exact Below.refl _ _) | (with_reducible assumption) | (with_reducible refine Below.alloc ?_ ?_ _) | (with_reducible refine below_drewN ?_ _) | (with_reducible refine Below.drew ?_) | (with_reducible refine Below.setCell ?_ ?_ _) | go_size)))); intro K hK; go_simp; apply Exists.intro; refine ⟨fun w2 hw2 => ?_, hK _ ?_⟩; (focus (obtain ⟨hc2, hf2⟩ := bcell hw2; go_simp; first | done | rfl)); clear hK K)
  (refine HW.q (i := 10) rfl (by kernel_rfl) (fun _ _ _ _ h => h) ?_ ?_; (focus ((try dsimp only); exact (by repeat' (first | (with_reducible exact Below.refl _ _) | (with_reducible assumption) | (with_reducible refine Below.alloc ?_ ?_ _) | (with_reducible refine below_drewN ?_ _) | (with_reducible refine Below.drew ?_) | (with_reducible refine Below.setCell ?_ ?_ _) | go_size)))); intro K hK; go_simp; first | (refine hK _ ?_; clear hK K) | (refine ⟨_, fun _ _ => rfl, hK _ ?_⟩; clear hK K))
  (refine HW.solo (i := 11) rfl (by kernel_rfl) (by kernel_rfl) ?_; intro K hK; go_simp)
  refine hK _ _ (by repeat' (first | (with_reducible exact Below.refl _ _) | (with_reducible assumption) | (with_reducible refine Below.alloc ?_ ?_ _) | (with_reducible refine below_drewN ?_ _) | (with_reducible refine Below.drew ?_) | (with_reducible refine Below.setCell ?_ ?_ _) | go_size)) ?_
  clear hK K
  refine HW.done (by kernel_rfl) ?_
  simp only [List.drop_succ_cons, List.drop_zero]
  go_wp2_with fail
  refine wp_name ?_
  intro V2 HV2
  have hRV := Lib.hid (show Blk V2 V.heap.size 83 (recVal { kind := 2, key := key, value := val } (.slice none 0 0) (.slice none 0 0)) by rw [← HV2.out]; exact Blk.new_at rfl)
  have hb2 : Below V.heap.size V V2 := by rw [← HV2.out]; exact (by repeat' (first | (with_reducible exact Below.refl _ _) | (with_reducible assumption) | (with_reducible refine Below.alloc ?_ ?_ _) | (with_reducible refine below_drewN ?_ _) | (with_reducible refine Below.drew ?_) | (with_reducible refine Below.setCell ?_ ?_ _) | go_size))
  clear HV2 hcB hcP hcT
  have hBV2 := Lib.hid (hBV.out.below hb2 hbl)
  have hPV2 := Lib.hid (hPV.out.below hb2 hpl)
  have hTV2 := Lib.hid (hTV.out.below hb2 htl)
  have hOV2 := Lib.hid (ownsRow_keep hOV.out hb2)
  have hbw2 : Below w.heap.size w V2 := below_to hbV hb2
  clear hBV hPV hTV hOV hb2 hbV
  have hbl := hBV2.out.lt
  have hpl := hPV2.out.lt
  have htl := hTV2.out.lt
  have hrl := hRV.out.lt
  have hcB := fun i => hBV2.out.cell i
  have hcP := fun i => hPV2.out.cell i
  have hcT := fun i => hTV2.out.cell i
  simp only [thrC] at hcT
  simp only [pageVal] at hcP
  refine wp_region_head 13 (SB V2) (by kernel_rfl) (by kernel_rfl) ?_
  (refine HW.q (i := 0) rfl (by kernel_rfl) (fun _ _ _ _ h => h) ?_ ?_; (focus ((try dsimp only); exact (by repeat' (first | (with_reducible exact Below.refl _ _) | (with_reducible assumption) | (with_reducible refine Below.alloc ?_ ?_ _) | (with_reducible refine below_drewN ?_ _) | (with_reducible refine Below.drew ?_) | (with_reducible refine Below.setCell ?_ ?_ _) | go_size)))); intro K hK; go_simp; first | (refine hK _ ?_; clear hK K) | (refine ⟨_, fun _ _ => rfl, hK _ ?_⟩; clear hK K))
  (refine HW.q (i := 1) rfl (by kernel_rfl) (fun _ _ _ _ h => h) ?_ ?_; (focus ((try dsimp only); exact (by repeat' (first | (with_reducible exact Below.refl _ _) | (with_reducible assumption) | (with_reducible refine Below.alloc ?_ ?_ _) | (with_reducible refine below_drewN ?_ _) | (with_reducible refine Below.drew ?_) | (with_reducible refine Below.setCell ?_ ?_ _) | go_size)))); intro K hK; go_simp; first | (refine hK _ ?_; clear hK K) | (refine ⟨_, fun _ _ => rfl, hK _ ?_⟩; clear hK K))
  (refine HW.q (i := 2) rfl (by kernel_rfl) (fun _ _ _ _ h => h) ?_ ?_; (focus ((try dsimp only); exact (by repeat' (first | (with_reducible exact Below.refl _ _) | (with_reducible assumption) | (with_reducible refine Below.alloc ?_ ?_ _) | (with_reducible refine below_drewN ?_ _) | (with_reducible refine Below.drew ?_) | (with_reducible refine Below.setCell ?_ ?_ _) | go_size)))); intro K hK; go_simp; apply Exists.intro; refine ⟨fun w2 hw2 => ?_, hK _ ?_⟩; (focus (obtain ⟨hc2, hf2⟩ := bcell hw2; go_simp; first | done | rfl)); clear hK K)
  (refine HW.q (i := 3) rfl (by kernel_rfl) (fun _ _ _ _ h => h) ?_ ?_; (focus ((try dsimp only); exact (by repeat' (first | (with_reducible exact Below.refl _ _) | (with_reducible assumption) | (with_reducible refine Below.alloc ?_ ?_ _) | (with_reducible refine below_drewN ?_ _) | (with_reducible refine Below.drew ?_) | (with_reducible refine Below.setCell ?_ ?_ _) | go_size)))); intro K hK; go_simp; apply Exists.intro; refine ⟨fun w2 hw2 => ?_, hK _ ?_⟩; (focus (obtain ⟨hc2, hf2⟩ := bcell hw2; go_simp; first | done | rfl)); clear hK K)
  (refine HW.q (i := 4) rfl (by kernel_rfl) (fun _ _ _ _ h => h) ?_ ?_; (focus ((try dsimp only); exact (by repeat' (first | (with_reducible exact Below.refl _ _) | (with_reducible assumption) | (with_reducible refine Below.alloc ?_ ?_ _) | (with_reducible refine below_drewN ?_ _) | (with_reducible refine Below.drew ?_) | (with_reducible refine Below.setCell ?_ ?_ _) | go_size)))); intro K hK; go_simp; first | (refine hK _ ?_; clear hK K) | (refine ⟨_, fun _ _ => rfl, hK _ ?_⟩; clear hK K))
  (refine HW.q (i := 5) rfl (by kernel_rfl) (fun _ _ _ _ h => h) ?_ ?_; (focus ((try dsimp only); exact (by repeat' (first | (with_reducible exact Below.refl _ _) | (with_reducible assumption) | (with_reducible refine Below.alloc ?_ ?_ _) | (with_reducible refine below_drewN ?_ _) | (with_reducible refine Below.drew ?_) | (with_reducible refine Below.setCell ?_ ?_ _) | go_size)))); intro K hK; go_simp; first | (refine hK _ ?_; clear hK K) | (refine ⟨_, fun _ _ => rfl, hK _ ?_⟩; clear hK K))
  (refine HW.q (i := 6) rfl (by kernel_rfl) (fun _ _ _ _ h => h) ?_ ?_; (focus ((try dsimp only); exact (by repeat' (first | (with_reducible exact Below.refl _ _) | (with_reducible assumption) | (with_reducible refine Below.alloc ?_ ?_ _) | (with_reducible refine below_drewN ?_ _) | (with_reducible refine Below.drew ?_) | (with_reducible refine Below.setCell ?_ ?_ _) | go_size)))); intro K hK; go_simp; first | (refine hK _ ?_; clear hK K) | (refine ⟨_, fun _ _ => rfl, hK _ ?_⟩; clear hK K))
  (refine HW.q (i := 7) rfl (by kernel_rfl) (fun _ _ _ _ h => h) ?_ ?_; (focus ((try dsimp only); exact (by repeat' (first | (with_reducible exact Below.refl _ _) | (with_reducible assumption) | (with_reducible refine Below.alloc ?_ ?_ _) | (with_reducible refine below_drewN ?_ _) | (with_reducible refine Below.drew ?_) | (with_reducible refine Below.setCell ?_ ?_ _) | go_size)))); intro K hK; go_simp; apply Exists.intro; refine ⟨fun w2 hw2 => ?_, hK _ ?_⟩; (focus (obtain ⟨hc2, hf2⟩ := bcell hw2; go_simp; first | done | rfl)); clear hK K)
  (refine HW.solo (i := 8) rfl (by kernel_rfl) (by kernel_rfl) ?_; intro K hK; go_simp)
  go_at_call 91
  refine (find_any v.rows key AV V2.heap.size cV _ ((OwnV.reads hOV2.out).drew) hok hk).mono ?_
  rintro e w1 ⟨rfl, n1, hw1⟩
  have hb1 : Below V2.heap.size V2 w1 := by rw [hw1]; exact (by repeat' (first | (with_reducible exact Below.refl _ _) | (with_reducible assumption) | (with_reducible refine Below.alloc ?_ ?_ _) | (with_reducible refine below_drewN ?_ _) | (with_reducible refine Below.drew ?_) | (with_reducible refine Below.setCell ?_ ?_ _) | go_size))
  clear hw1
  refine hK _ _ hb1 ?_
  clear hK K
  (refine HW.q (i := 9) rfl (by kernel_rfl) (fun _ _ _ _ h => h) ?_ ?_; (focus ((try dsimp only); exact (by repeat' (first | (with_reducible exact Below.refl _ _) | (with_reducible assumption) | (with_reducible refine Below.alloc ?_ ?_ _) | (with_reducible refine below_drewN ?_ _) | (with_reducible refine Below.drew ?_) | (with_reducible refine Below.setCell ?_ ?_ _) | go_size)))); intro K hK; go_simp; first | (refine hK _ ?_; clear hK K) | (refine ⟨_, fun _ _ => rfl, hK _ ?_⟩; clear hK K))
  (refine HW.q (i := 10) rfl (by kernel_rfl) (fun _ _ _ _ h => h) ?_ ?_; (focus ((try dsimp only); exact (by repeat' (first | (with_reducible exact Below.refl _ _) | (with_reducible assumption) | (with_reducible refine Below.alloc ?_ ?_ _) | (with_reducible refine below_drewN ?_ _) | (with_reducible refine Below.drew ?_) | (with_reducible refine Below.setCell ?_ ?_ _) | go_size)))); intro K hK; go_simp; first | (refine hK _ ?_; clear hK K) | (refine ⟨_, fun _ _ => rfl, hK _ ?_⟩; clear hK K))
  (refine HW.q (i := 11) rfl (by kernel_rfl) (fun _ _ _ _ h => h) ?_ ?_; (focus ((try dsimp only); exact (by repeat' (first | (with_reducible exact Below.refl _ _) | (with_reducible assumption) | (with_reducible refine Below.alloc ?_ ?_ _) | (with_reducible refine below_drewN ?_ _) | (with_reducible refine Below.drew ?_) | (with_reducible refine Below.setCell ?_ ?_ _) | go_size)))); intro K hK; go_simp; first | (refine hK _ ?_; clear hK K) | (refine ⟨_, fun _ _ => rfl, hK _ ?_⟩; clear hK K))
  (refine HW.q (i := 12) rfl (by kernel_rfl) (fun _ _ _ _ h => h) ?_ ?_; (focus ((try dsimp only); exact (by repeat' (first | (with_reducible exact Below.refl _ _) | (with_reducible assumption) | (with_reducible refine Below.alloc ?_ ?_ _) | (with_reducible refine below_drewN ?_ _) | (with_reducible refine Below.drew ?_) | (with_reducible refine Below.setCell ?_ ?_ _) | go_size)))); intro K hK; go_simp; first | (refine hK _ ?_; clear hK K) | (refine ⟨_, fun _ _ => rfl, hK _ ?_⟩; clear hK K))
  refine HW.done (by kernel_rfl) ?_
  simp only [List.drop_succ_cons, List.drop_zero]
  clear hcB hcP hcT
  have hBV2 := Lib.hid (hBV2.out.below hb1 hbl)
  have hPV2 := Lib.hid (hPV2.out.below hb1 hpl)
  have hTV2 := Lib.hid (hTV2.out.below hb1 htl)
  have hRV := Lib.hid (hRV.out.below hb1 hrl)
  have hbw2 : Below w.heap.size w w1 := below_to hbw2 hb1
  have hbl := hBV2.out.lt
  have hpl := hPV2.out.lt
  have htl := hTV2.out.lt
  have hrl := hRV.out.lt
  have hcB := fun i => hBV2.out.cell i
  have hcT := fun i => hTV2.out.cell i
  simp only [thrC] at hcT
  go_wp2_with fail
  refine wp_name ?_
  intro V3 HV3
  have hs1 := hb1.size
  have hYV := Lib.hid (show Blk V3 w1.heap.size 29 #[.string ⟨#[]⟩, .nilIface] by rw [← HV3.out]; exact Blk.new_at (by simp))
  have hb3 : Below w1.heap.size w1 V3 := by rw [← HV3.out]; exact (by repeat' (first | (with_reducible exact Below.refl _ _) | (with_reducible assumption) | (with_reducible refine Below.alloc ?_ ?_ _) | (with_reducible refine below_drewN ?_ _) | (with_reducible refine Below.drew ?_) | (with_reducible refine Below.setCell ?_ ?_ _) | go_size))
  clear HV3 hcB hcT
  have hBV3 := Lib.hid (hBV2.out.below hb3 hbl)
  have hPV3 := Lib.hid (hPV2.out.below hb3 hpl)
  have hTV3 := Lib.hid (hTV2.out.below hb3 htl)
  have hRV3 := Lib.hid (hRV.out.below hb3 hrl)
  have hbw3 : Below w.heap.size w V3 := below_to hbw2 hb3
  clear hBV2 hPV2 hTV2 hOV2 hb3 hbw2 hRV
  have hbl := hBV3.out.lt
  have hpl := hPV3.out.lt
  have htl := hTV3.out.lt
  have hrl := hRV3.out.lt
  have hyl := hYV.out.lt
  have hcB := fun i => hBV3.out.cell i
  have hcP := fun i => hPV3.out.cell i
  simp only [pageVal] at hcP
  have hrg := Lib.hid hRV3.out.rangeArr
  refine wp_region_head 8 (SB V3) (by kernel_rfl) (by kernel_rfl) ?_
  (refine HW.q (i := 1) rfl (by kernel_rfl) (fun _ _ _ _ h => h) ?_ ?_; (focus ((try dsimp only); exact (by repeat' (first | (with_reducible exact Below.refl _ _) | (with_reducible assumption) | (with_reducible refine Below.alloc ?_ ?_ _) | (with_reducible refine below_drewN ?_ _) | (with_reducible refine Below.drew ?_) | (with_reducible refine Below.setCell ?_ ?_ _) | go_size)))); intro K hK; go_simp; first | (refine hK _ ?_; clear hK K) | (refine ⟨_, fun _ _ => rfl, hK _ ?_⟩; clear hK K))
  (refine HW.q (i := 3) rfl (by kernel_rfl) (fun _ _ _ _ h => h) ?_ ?_; (focus ((try dsimp only); exact (by repeat' (first | (with_reducible exact Below.refl _ _) | (with_reducible assumption) | (with_reducible refine Below.alloc ?_ ?_ _) | (with_reducible refine below_drewN ?_ _) | (with_reducible refine Below.drew ?_) | (with_reducible refine Below.setCell ?_ ?_ _) | go_size)))); intro K hK; go_simp; first | (refine hK _ ?_; clear hK K) | (refine ⟨_, fun _ _ => rfl, hK _ ?_⟩; clear hK K))
  (refine HW.q (i := 7) rfl (by kernel_rfl) (fun _ _ _ _ h => h) ?_ ?_; (focus ((try dsimp only); exact (by repeat' (first | (with_reducible exact Below.refl _ _) | (with_reducible assumption) | (with_reducible refine Below.alloc ?_ ?_ _) | (with_reducible refine below_drewN ?_ _) | (with_reducible refine Below.drew ?_) | (with_reducible refine Below.setCell ?_ ?_ _) | go_size)))); intro K hK; go_simp; first | (refine hK _ ?_; clear hK K) | (refine ⟨_, fun _ _ => rfl, hK _ ?_⟩; clear hK K))
  (refine HW.q (i := 0) rfl (by kernel_rfl) (fun _ _ _ _ h => h) ?_ ?_; (focus ((try dsimp only); exact (by repeat' (first | (with_reducible exact Below.refl _ _) | (with_reducible assumption) | (with_reducible refine Below.alloc ?_ ?_ _) | (with_reducible refine below_drewN ?_ _) | (with_reducible refine Below.drew ?_) | (with_reducible refine Below.setCell ?_ ?_ _) | go_size)))); intro K hK; go_simp; apply Exists.intro; refine ⟨fun w2 hw2 => ?_, hK _ ?_⟩; (focus (obtain ⟨hc2, hf2⟩ := bcell hw2; go_simp; first | done | rfl)); clear hK K)
  (refine HW.q (i := 2) rfl (by kernel_rfl) (fun _ _ _ _ h => h) ?_ ?_; (focus ((try dsimp only); exact (by repeat' (first | (with_reducible exact Below.refl _ _) | (with_reducible assumption) | (with_reducible refine Below.alloc ?_ ?_ _) | (with_reducible refine below_drewN ?_ _) | (with_reducible refine Below.drew ?_) | (with_reducible refine Below.setCell ?_ ?_ _) | go_size)))); intro K hK; go_simp; apply Exists.intro; refine ⟨fun w2 hw2 => ?_, hK _ ?_⟩; (focus (obtain ⟨hc2, hf2⟩ := bcell hw2; go_simp; first | done | rfl)); clear hK K)
  (refine HW.q (i := 4) rfl (by kernel_rfl) (fun _ _ _ _ h => h) ?_ ?_; (focus ((try dsimp only); exact (by repeat' (first | (with_reducible exact Below.refl _ _) | (with_reducible assumption) | (with_reducible refine Below.alloc ?_ ?_ _) | (with_reducible refine below_drewN ?_ _) | (with_reducible refine Below.drew ?_) | (with_reducible refine Below.setCell ?_ ?_ _) | go_size)))); intro K hK; go_simp; apply Exists.intro; refine ⟨fun w2 hw2 => ?_, hK _ ?_⟩; (focus (obtain ⟨hc2, hf2⟩ := bcell hw2; go_simp; first | done | rfl)); clear hK K)
  refine HW.q (i := 5) rfl (by kernel_rfl) (fun _ _ _ _ h => h) ?_ ?_
  · exact (by repeat' (first | (with_reducible exact Below.refl _ _) | (with_reducible assumption) | (with_reducible refine Below.alloc ?_ ?_ _) | (with_reducible refine below_drewN ?_ _) | (with_reducible refine Below.drew ?_) | (with_reducible refine Below.setCell ?_ ?_ _) | go_size))
  intro K hK
  refine held_load_arr (by kernel_rfl) 83 _ rfl V.heap.size 0 rfl (recVal { kind := 2, key := key, value := val } (.slice none 0 0) (.slice none 0 0)) _ (fun w2 hw2 => (hRV3.out.below (show Below V3.heap.size V3 w2 from hw2) hrl).rangeArr) Tryz.underlying83 rfl (by kernel_rfl) ?_
  refine hK _ ?_
  clear hK K
  (refine HW.solo (i := 6) rfl (by kernel_rfl) (by kernel_rfl) ?_; intro K hK; go_simp)
  go_at_call 119
  refine (only_any pn hs hg { kind := 2, key := key, value := val } none none 0 0 0 0 _).mono ?_
  rintro e w4 ⟨br, rfl, hJ4, hb4⟩
  have hb4 : Below V3.heap.size V3 w4 := below_to (by repeat' (first | (with_reducible exact Below.refl _ _) | (with_reducible assumption) | (with_reducible refine Below.alloc ?_ ?_ _) | (with_reducible refine below_drewN ?_ _) | (with_reducible refine Below.drew ?_) | (with_reducible refine Below.setCell ?_ ?_ _) | go_size)) hb4
  refine hK _ _ hb4 ?_
  clear hK K
  refine HW.done (by kernel_rfl) ?_
  simp only [List.drop_succ_cons, List.drop_zero]
  clear hcB hcP
  have hTV4 := Lib.hid (hTV3.out.below hb4 htl)
  have hBV4 := Lib.hid (hBV3.out.below hb4 hbl)
  have hYV4 := Lib.hid (hYV.out.below hb4 hyl)
  have hbw4 : Below w.heap.size w w4 := below_to hbw3 hb4
  go_wp2_with (go_at_call 118
               refine (tinstall_ok bt pn hs hg (recN { kind := 2, key := key, value := val } hs hg) none 0 0 none 0 0 br n bg 2 key val wr rs re nx _ _ _ _ hTV4.out hJ4).mono ?_
               rintro e w5 ⟨rfl, bi, bq, bx, bh, hIn, hge, hF5⟩)
  go_ret
  have hyne : w1.heap.size ∉ [bt] := by simp; omega
  have hbne : w.heap.size ∉ [bt] := by simp; omega
  exact ⟨rfl, br, bi, bq, bx, bh, w1.heap.size, w.heap.size, hIn, hF5.blk hBV4.out hbne, hF5.blk hYV4.out hyne, Nat.le_trans hbw4.size hge, (Fr.of_below hbw4 [bt]).trans hF5⟩
end Go.Proofs.YthidclcliflhkaaGreat
end
