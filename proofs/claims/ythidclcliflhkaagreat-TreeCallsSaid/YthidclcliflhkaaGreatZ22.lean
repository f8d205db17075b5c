/- awake: the run of a call that the document counts: contract. TreeCalls, a call that may be, given what awake answers. awake answers true: contract. -/
import Derived.Test.YthidclcliflhkaaGreatZ20
import Derived.Test.YthidclcliflhkaaGreatZ21
section
open Go Go.RowKit
namespace Go.Proofs.YthidclcliflhkaaGreat

def aK : ByteArray := ⟨#[97]⟩
def aV : ByteArray := ⟨#[49]⟩
def aLim : Rl.Limits := ⟨20, 4, 2, 4, 4, 99⟩
def aRec : Rl.Rec := recN { kind := 2, key := aK, value := aV } 1 1
def aS0 (rv ev : Value) : List SlotV := (List.replicate 20 slot0).set 0 ⟨⟨1, true, baseRec⟩, rv, ev⟩
def aS1 (rv ev rv' ev' : Value) : List SlotV := (aS0 rv ev).set 1 ⟨⟨1, true, aRec⟩, rv', ev'⟩
def aT0 : List Rl.Pg := (List.replicate 4 {}).set 0 ⟨true, ⟨1, 1⟩⟩
def aT1 : List Rl.Pg := aT0.set 0 ⟨true, ⟨2, 1⟩⟩
def aD1 : DataW Unit := (DataW.map []).put (.int .i64 0) (.lit (.int .i64 2))
def thrA (nx : Value) : Array Value := thrC 0 true 2 aK aV true ⟨#[]⟩ .nilIface nx
/-- Where the run stands behind so many accesses. -/
def AwSt (w0 : World) (b : MB) (bt : Nat) : Nat → World → Prop
  | 0, w => Below w0.heap.size w0 w ∧ ∃ rv ev, MemAt w b aLim 0 (aS0 rv ev) aT0 1 0 (.map []) ∧ Blk w bt 66 (thrA (bumpFn bt))
  | 1, w => Below w0.heap.size w0 w ∧ ∃ rv ev bx ba, MemAt w b aLim 1 (aS0 rv ev) aT0 2 0 (.map []) ∧ Blk w bx 25 #[.pointer (some ⟨bt, 0, none⟩)] ∧ Blk w ba 3 #[.int .i64 2] ∧ Blk w bt 66 (thrA (enterFn bx ba))
  | 2, w => Below w0.heap.size w0 w ∧ ∃ rv ev bl bq bx, MemAt w b aLim 2 (aS0 rv ev) aT0 2 1 aD1 ∧ Walks w bt 0 0 true 2 aK aV true ⟨#[]⟩ .nilIface bl bq bx ∧ w0.heap.size ≤ bl
  | 3, w => Below w0.heap.size w0 w ∧ ∃ rv ev bl bq bx, MemAt w b aLim 3 (aS0 rv ev) aT0 2 1 aD1 ∧ WalkL w bt 0 1 1 0 true 2 aK aV true ⟨#[]⟩ .nilIface bl bq bx ∧ w0.heap.size ≤ bl
  | 4, w => Below w0.heap.size w0 w ∧ ∃ rv ev br bi bq bx bh bo bxa, MemAt w b aLim 4 (aS0 rv ev) aT0 2 1 aD1 ∧ Insts w bt 0 1 1 3 aRec none 0 0 none 0 0 br (.slice none 0 0) 0 true 2 aK aV true ⟨#[]⟩ .nilIface (actFn bxa bo) bi bq bx bh ∧
      Blk w bxa 25 #[.pointer (some ⟨bt, 0, none⟩)] ∧ Blk w bo 29 #[.string ⟨#[]⟩, .nilIface] ∧ w0.heap.size ≤ bi
  | 5, w => Below w0.heap.size w0 w ∧ ∃ rv ev rv' ev' br bi bq bx bh bo bxa g c, MemAt w b aLim 5 (aS1 rv ev rv' ev') aT0 2 1 aD1 ∧ Insts w bt 0 1 1 4 aRec none 0 0 none 0 0 br (.slice (some ⟨g, 0, none⟩) 1 c) 0 true 2 aK aV true ⟨#[]⟩ .nilIface (actFn bxa bo) bi bq bx bh ∧
      Blk w bxa 25 #[.pointer (some ⟨bt, 0, none⟩)] ∧ Blk w bo 29 #[.string ⟨#[]⟩, .nilIface] ∧ w0.heap.size ≤ bi ∧ w.ownsRow 0 55 2 (.slice (some ⟨g, 0, none⟩) 1 c) 1 [.int .i64 2, .int .i64 1]
  | 6, w => Below w0.heap.size w0 w ∧ ∃ rv ev rv' ev' bx, MemAt w b aLim 6 (aS1 rv ev rv' ev') aT1 2 1 aD1 ∧ Blk w bx 25 #[.pointer (some ⟨bt, 0, none⟩)] ∧ Blk w bt 66 (thrA (leaveFn bx))
  | 7, w => Below w0.heap.size w0 w ∧ ∃ rv ev rv' ev', MemAt w b aLim 7 (aS1 rv ev rv' ev') aT1 2 1 (aD1.del (.int .i64 0)) ∧ Blk w bt 66 (thrA .nilFunc)
  | _, _ => False
theorem fr_below {F : List Nat} {w0 w w' : World} (hb : Below w0.heap.size w0 w) (h : Fr F w w') (hF : ∀ g ∈ F, w0.heap.size ≤ g) : Below w0.heap.size w0 w' := hb.trans (h.below hb.size hF)
theorem cons_F0 {w0 : World} {b : MB} (hbF : ∀ g ∈ b.F, w0.heap.size ≤ g) {x : Nat} (hx : w0.heap.size ≤ x) : ∀ g ∈ x :: b.F, w0.heap.size ≤ g := by
  intro g hg
  rcases List.mem_cons.1 hg with rfl | hg
  · exact hx
  · exact hbF g hg
section
variable {w0 w : World} {b : MB} {bt : Nat}
theorem aw0 (hbF : ∀ g ∈ b.F, w0.heap.size ≤ g) (hbt : w0.heap.size ≤ bt) (h : AwSt w0 b bt 0 w) : Calls Tryz.prog 7 #[.pointer (some ⟨bt, 0, none⟩), .pointer (some ⟨b.m, 0, none⟩)] w fun e w' => e = .returned (.bool false) ∧ AwSt w0 b bt 1 w' := by
  obtain ⟨hb, rv, ev, hM, hT⟩ := h
  refine tstep_fn bt _ #[.pointer (some ⟨bt, 0, none⟩)] #[] _ false (AwSt w0 b bt 1) w (hT.cell 11) (run_bump _) ?_
  refine (bump_ok bt 0 true 2 aK aV true ⟨#[]⟩ .nilIface _ b aLim 0 (aS0 rv ev) aT0 1 0 (.map []) w hT hM (by decide) (by decide) (by decide) (by decide) (by decide)).mono ?_
  rintro e w' ⟨rfl, bx, ba, h1, h2, h3, h4, h5⟩
  exact ⟨rfl, fr_below hb h5 (cons_F0 hbF hbt), rv, ev, bx, ba, h4, h1, h2, h3⟩
theorem aw1 (hbF : ∀ g ∈ b.F, w0.heap.size ≤ g) (hbt : w0.heap.size ≤ bt) (h : AwSt w0 b bt 1 w) : Calls Tryz.prog 7 #[.pointer (some ⟨bt, 0, none⟩), .pointer (some ⟨b.m, 0, none⟩)] w fun e w' => e = .returned (.bool false) ∧ AwSt w0 b bt 2 w' := by
  obtain ⟨hb, rv, ev, bx, ba, hM, hX, hA, hT⟩ := h
  refine tstep_fn bt _ #[] #[.pointer (some ⟨bx, 0, none⟩), .pointer (some ⟨ba, 0, none⟩)] _ false (AwSt w0 b bt 2) w (hT.cell 11) (run_bump1 _) ?_
  refine (bump1_ok bt bx ba 0 true 2 aK aV true ⟨#[]⟩ .nilIface _ 2 b aLim 1 (aS0 rv ev) aT0 2 0 (.map []) w hT hX hA hM (by decide) (by decide) (by decide) (by decide) (by decide) (by decide) (by rfl) (by decide) (by decide) (by decide)).mono ?_
  rintro e w' ⟨rfl, bl, bq, bx2, h1, h2, h3, h4⟩
  exact ⟨rfl, fr_below hb h4 (cons_F0 hbF hbt), rv, ev, bl, bq, bx2, h3, h1, Nat.le_trans hb.size h2⟩
theorem aw2 (hbF : ∀ g ∈ b.F, w0.heap.size ≤ g) (_hbt : w0.heap.size ≤ bt) (h : AwSt w0 b bt 2 w) : Calls Tryz.prog 7 #[.pointer (some ⟨bt, 0, none⟩), .pointer (some ⟨b.m, 0, none⟩)] w fun e w' => e = .returned (.bool false) ∧ AwSt w0 b bt 3 w' := by
  obtain ⟨hb, rv, ev, bl, bq, bx, hM, hW, hl⟩ := h
  refine tstep_fn bt _ #[] #[.pointer (some ⟨bq, 0, none⟩), .pointer (some ⟨bx, 0, none⟩)] _ false (AwSt w0 b bt 3) w (hW.t.cell 11) (run_walk1 _) ?_
  refine (walk1_head bt 0 0 true 2 aK aV true ⟨#[]⟩ .nilIface bl bq bx b aLim 2 (aS0 rv ev) aT0 2 1 aD1 w hW hM (by decide) (by decide) (by rfl) (by decide) (by decide) (by decide)).mono ?_
  rintro e w' ⟨rfl, h1, h2, h3⟩
  exact ⟨rfl, fr_below hb h3 (cons_F0 hbF hl), rv, ev, bl, bq, bx, h2, h1, hl⟩
theorem aw3 (hbF : ∀ g ∈ b.F, w0.heap.size ≤ g) (hbt : w0.heap.size ≤ bt) (h : AwSt w0 b bt 3 w) : Calls Tryz.prog 7 #[.pointer (some ⟨bt, 0, none⟩), .pointer (some ⟨b.m, 0, none⟩)] w fun e w' => e = .returned (.bool false) ∧ AwSt w0 b bt 4 w' := by
  obtain ⟨hb, rv, ev, bl, bq, bx, hM, hW, hl⟩ := h
  refine tstep_fn bt _ #[] #[.pointer (some ⟨bq, 0, none⟩), .pointer (some ⟨bx, 0, none⟩)] _ false (AwSt w0 b bt 4) w (hW.t.cell 11) (run_walk1 _) ?_
  refine (walk1_ins bt 0 1 1 0 true aK aV ⟨#[]⟩ .nilIface bl bq bx 0 b aLim 3 (aS0 rv ev) aT0 2 1 aD1 w hW hM (by decide) (by decide) (by simp [aS0]) (by simp [aS0]) rfl rfl baseRec_ok rfl rfl (by rfl) rfl (by decide) (by decide) (by decide) (by rfl)).mono ?_
  rintro e w' ⟨rfl, br, bi, bq2, bx2, bh, bo, bxa, h1, h2, h3, h4, h5, h6⟩
  refine ⟨rfl, fr_below hb h6 ?_, rv, ev, br, bi, bq2, bx2, bh, bo, bxa, h5, h1, h2, h3, Nat.le_trans hb.size h4⟩
  intro g hg
  rcases List.mem_cons.1 hg with rfl | hg
  · exact hbt
  · exact cons_F0 hbF hl g hg
theorem aw4 (hbF : ∀ g ∈ b.F, w0.heap.size ≤ g) (_hbt : w0.heap.size ≤ bt) (h : AwSt w0 b bt 4 w) : Calls Tryz.prog 7 #[.pointer (some ⟨bt, 0, none⟩), .pointer (some ⟨b.m, 0, none⟩)] w fun e w' => e = .returned (.bool false) ∧ AwSt w0 b bt 5 w' := by
  obtain ⟨hb, rv, ev, br, bi, bq, bx, bh, bo, bxa, hM, hI, hX, hY, hl⟩ := h
  refine tstep_fn bt _ #[] #[.pointer (some ⟨bq, 0, none⟩), .pointer (some ⟨bx, 0, none⟩), .pointer (some ⟨bh, 0, none⟩)] _ false (AwSt w0 b bt 5) w (hI.t.cell 11) (run_inst1 _) ?_
  have nX := Blk.ne_ hX hI.i (by decide)
  have nY := Blk.ne_ hY hI.i (by decide)
  refine (inst1_head bt 0 1 1 aRec br 0 true 2 aK aV true ⟨#[]⟩ .nilIface _ bi bq bx bh b aLim 4 (aS0 rv ev) aT0 2 1 aD1 1 w hI rfl rfl hM ⟨by decide, by decide, by decide, by decide, by decide, ⟨by decide, by simp [aRec, recN]⟩, by decide⟩ (by simp [aS0]) (by simp [aS0]) ?_ rfl (show (0 : Int) < 99 by decide) (by decide) (show (0 : Int) ≤ 0 by decide) (by decide) (by decide)).mono ?_
  · intro k h
    obtain rfl : k = 0 := by omega
    rfl
  rintro e w' ⟨rfl, g, c, rv', ev', h1, h2, h3, h4⟩
  have oX := hM.nF hX (by decide) (by decide) (by decide) (by decide)
  have oY := hM.nF hY (by decide) (by decide) (by decide) (by decide)
  exact ⟨rfl, fr_below hb h4 (cons_F0 hbF hl), rv, ev, rv', ev', br, bi, bq, bx, bh, bo, bxa, g, c, h3, h1, h4.blk hX (by simp [nX, oX]), h4.blk hY (by simp [nY, oY]), hl, h2⟩
theorem aw5 (hbF : ∀ g ∈ b.F, w0.heap.size ≤ g) (hbt : w0.heap.size ≤ bt) (h : AwSt w0 b bt 5 w) : Calls Tryz.prog 7 #[.pointer (some ⟨bt, 0, none⟩), .pointer (some ⟨b.m, 0, none⟩)] w fun e w' => e = .returned (.bool false) ∧ AwSt w0 b bt 6 w' := by
  obtain ⟨hb, rv, ev, rv', ev', br, bi, bq, bx, bh, bo, bxa, g, c, hM, hI, hX, hY, hl, hO⟩ := h
  refine tstep_fn bt _ #[] #[.pointer (some ⟨bq, 0, none⟩), .pointer (some ⟨bx, 0, none⟩), .pointer (some ⟨bh, 0, none⟩)] _ false (AwSt w0 b bt 6) w (hI.t.cell 11) (run_inst1 _) ?_
  refine (inst1_swap bt 0 1 1 aRec br 0 true 2 aK aV true ⟨#[]⟩ .nilIface bi bq bx bh bxa bo g c 2 1 ⟨#[]⟩ b aLim 5 (aS1 rv ev rv' ev') aT0 2 1 aD1 w hI hO hX hY hM (by decide) (by decide) (by rfl) rfl (by decide) (by decide)).mono ?_
  rintro e w' ⟨rfl, bx2, h1, h2, h3, h4⟩
  refine ⟨rfl, fr_below hb h4 ?_, rv, ev, rv', ev', bx2, h3, h1, h2⟩
  intro g hg
  rcases List.mem_cons.1 hg with rfl | hg
  · exact hbt
  · exact cons_F0 hbF hl g hg
theorem aw6 (hbF : ∀ g ∈ b.F, w0.heap.size ≤ g) (hbt : w0.heap.size ≤ bt) (h : AwSt w0 b bt 6 w) : Calls Tryz.prog 7 #[.pointer (some ⟨bt, 0, none⟩), .pointer (some ⟨b.m, 0, none⟩)] w fun e w' => e = .returned (.bool true) ∧ AwSt w0 b bt 7 w' := by
  obtain ⟨hb, rv, ev, rv', ev', bx, hM, hX, hT⟩ := h
  refine tstep_fn bt _ #[] #[.pointer (some ⟨bx, 0, none⟩)] _ true (AwSt w0 b bt 7) w (hT.cell 11) (run_leave1 _) ?_
  refine (leave1_ok bt bx 0 true 2 aK aV true ⟨#[]⟩ .nilIface _ b aLim 6 (aS1 rv ev rv' ev') aT1 2 1 aD1 w hT hX hM (by decide) (by decide) (by decide) (by rfl) (by decide) (by decide)).mono ?_
  rintro e w' ⟨rfl, h1, h2, h3⟩
  exact ⟨rfl, fr_below hb h3 (cons_F0 hbF hbt), rv, ev, rv', ev', h2, h1⟩
theorem awstep (hbF : ∀ g ∈ b.F, w0.heap.size ≤ g) (hbt : w0.heap.size ≤ bt) (j : Nat) (hj : j < 6) (h : AwSt w0 b bt j w) : Calls Tryz.prog 7 #[.pointer (some ⟨bt, 0, none⟩), .pointer (some ⟨b.m, 0, none⟩)] w fun e w' => e = .returned (.bool false) ∧ AwSt w0 b bt (j + 1) w' := by
  match j, hj, h with
  | 0, _, h => exact aw0 hbF hbt h
  | 1, _, h => exact aw1 hbF hbt h
  | 2, _, h => exact aw2 hbF hbt h
  | 3, _, h => exact aw3 hbF hbt h
  | 4, _, h => exact aw4 hbF hbt h
  | 5, _, h => exact aw5 hbF hbt h
end
end Go.Proofs.YthidclcliflhkaaGreat
end
section
open Go Go.RowKit
namespace Go.Proofs.YthidclcliflhkaaGreat

set_option maxRecDepth 100000 in
set_option maxHeartbeats 2000000 in
theorem treecalls_good (haw : ∀ w, Calls Tryz.prog 4 #[] w (RetB (.bool true) w)) (kind n : Int) (key val : ByteArray) (w : World) (hk : key.size ≤ maxLen) (hv : val.size ≤ maxLen) (h1 : key.size ≤ 1000) (h2 : val.size ≤ 1000) (hr : callOk kind key val = true) :
    Calls Tryz.prog 3 #[.agg #[.int .i64 kind, .string key, .string val], .int .i64 n] w (RetB (.bool true) w) := by
  go_enter Tryz.func3, Tryz.ntmps3
  go_wp2_with (first
    | (go_at_call 5
       refine (reply_nil _).mono ?_
       rintro e w1 ⟨rfl, hb1⟩
       have hX1 := Lib.hid (Blk.below (Blk.new_at (b := w.heap.size) rfl) hb1 (by first | (simp; done) | (simp; omega) | omega))
       have hx1 := hX1.out.lt
       have hb1 : Below w.heap.size w w1 := below_to (by repeat' (first | (with_reducible exact Below.refl _ _) | (with_reducible assumption) | (with_reducible refine Below.alloc ?_ ?_ _) | (with_reducible refine below_drewN ?_ _) | (with_reducible refine Below.drew ?_) | (with_reducible refine Below.setCell ?_ ?_ _) | go_size)) hb1
       have hcX := fun i => hX1.out.cell i)
    | (go_at_call 6
       refine (sweep_nil _).mono ?_
       rintro e w2 ⟨⟨v2, rfl⟩, rfl⟩)
    | (go_at_call 7
       refine (step_nil _).mono ?_
       rintro e w2 ⟨rfl, rfl⟩)
    | (go_at_call 8
       refine (pending_nil _).mono ?_
       rintro e w2 ⟨rfl, rfl⟩)
    | (go_at_call 9
       refine (fis_same 1 _ eql1).mono ?_
       rintro e w2 ⟨rfl, rfl⟩)
    | (go_at_call 11
       refine (bin_nil _).mono ?_
       rintro e w2 ⟨rfl, rfl⟩)
    | (go_at_call 10
       refine (start_nil _ _ _ _).mono ?_
       rintro e w3 ⟨rfl, hb3⟩
       have hX3 := Lib.hid (Blk.below (hX1.out.alloc _) hb3 (by first | (simp; done) | (simp; omega) | omega))
       have hx3 := hX3.out.lt
       have hb3 : Below w.heap.size w w3 := below_to (by repeat' (first | (with_reducible exact Below.refl _ _) | (with_reducible assumption) | (with_reducible refine Below.alloc ?_ ?_ _) | (with_reducible refine below_drewN ?_ _) | (with_reducible refine Below.drew ?_) | (with_reducible refine Below.setCell ?_ ?_ _) | go_size)) hb3
       have hcX3 := fun i => hX3.out.cell i))
  clear hcX
  go_wp2_with (first
    | (go_at_call 12
       refine (newthread_any _ _).mono ?_
       rintro e w4 ⟨rfl, hT4, hb4⟩
       have hX4 := Lib.hid (hX3.out.below hb4 hx3)
       have HT4 := Lib.hid hT4
       have ht4 := hT4.lt
       clear hT4
       have hb4 : Below w.heap.size w w4 := below_to hb3 hb4)
    | (go_at_call 5
       refine (reply_new w2.heap.size n 0 ⟨#[]⟩ ⟨#[]⟩ false ⟨#[]⟩ .nilIface _ HT4.out).mono ?_
       rintro e w5 ⟨rfl, hb5⟩
       have hX5 := Lib.hid (hX4.out.below hb5 hX4.out.lt)
       have HT5 := Lib.hid (HT4.out.below hb5 ht4)
       have hb5 : Below w.heap.size w w5 := below_to hb4 hb5
       have hcX5 := fun i => hX5.out.cell i
       have hx5 := hX5.out.lt
       have ht5 := HT5.out.lt)
    | (go_at_call 10
       refine (start_ok w2.heap.size n false 0 ⟨#[]⟩ ⟨#[]⟩ false ⟨#[]⟩ .nilIface kind key val _ (HT5.out.alloc _) hk hv hr).mono ?_
       rintro e w6 ⟨rfl, hT6, hF6⟩
       have hX6 := Lib.hid (hF6.blk (hX5.out.alloc _) (by simp; omega))
       have HT6 := Lib.hid hT6
       have hb6 : Below w.heap.size w w6 := (show Below w.heap.size w (w5.alloc _) from (by repeat' (first | (with_reducible exact Below.refl _ _) | (with_reducible assumption) | (with_reducible refine Below.alloc ?_ ?_ _) | (with_reducible refine below_drewN ?_ _) | (with_reducible refine Below.drew ?_) | (with_reducible refine Below.setCell ?_ ?_ _) | go_size))).trans (hF6.below (by first | (simp; done) | (simp; omega) | omega) (by simp; omega))
       clear hT6
       have hcX6 := fun i => hX6.out.cell i
       have hx6 := hX6.out.lt
       have ht6 := HT6.out.lt))
  have hne : (false == false) = true := rfl
  refine wp_name ?_
  intro V HV
  have hbV : Below w.heap.size w V := by rw [← HV.out]; exact (by repeat' (first | (with_reducible exact Below.refl _ _) | (with_reducible assumption) | (with_reducible refine Below.alloc ?_ ?_ _) | (with_reducible refine below_drewN ?_ _) | (with_reducible refine Below.drew ?_) | (with_reducible refine Below.setCell ?_ ?_ _) | go_size))
  have hXV := Lib.hid (show Blk V w.heap.size 23 #[.int .i64 kind, .string key, .string val] by rw [← HV.out]; exact hX6.out)
  have HTV := Lib.hid (show Blk V w2.heap.size 66 (thrC n true kind key val (kind != 1) ⟨#[]⟩ .nilIface (bumpFn w2.heap.size)) by rw [← HV.out]; exact HT6.out)
  clear HV hcX6 hX6 HT6 hcX5 hX5 HT5 hX4 HT4 hX3 hX1 hcX3
  have hcV := fun i => hXV.out.cell i
  have hxV := hXV.out.lt
  have htV := HTV.out.lt
  refine wp_region_new (by kernel_rfl) (by kernel_rfl) ?_
  (refine wpQuiet_step (fun K hK => ?_); go_simp; first | (refine hK _ ?_; clear hK K) | (refine ⟨_, fun _ _ => rfl, hK _ ?_⟩; clear hK K))
  (refine wpQuiet_step (fun K hK => ?_); go_simp; apply Exists.intro; refine ⟨fun w2 hw2 => ?_, hK _ ?_⟩; (focus (refine (fis_same 13 w2 eql13).mono ?_; rintro e w3 ⟨rfl, rfl⟩; exact ⟨rfl, hw2⟩)); clear hK K)
  (refine wpQuiet_step (fun K hK => ?_); go_simp; first | (refine hK _ ?_; clear hK K) | (refine ⟨_, fun _ _ => rfl, hK _ ?_⟩; clear hK K))
  (refine wpQuiet_step (fun K hK => ?_); go_simp; first | (refine hK _ ?_; clear hK K) | (refine ⟨_, fun _ _ => rfl, hK _ ?_⟩; clear hK K))
  (refine wpQuiet_step (fun K hK => ?_); go_simp; apply Exists.intro; refine ⟨fun w2 hw2 => ?_, hK _ ?_⟩; (focus (obtain ⟨hc2, hf2⟩ := bcell hw2; go_simp; first | done | rfl)); clear hK K)
  (refine wpQuiet_step (fun K hK => ?_); go_simp; apply Exists.intro; refine ⟨fun w2 hw2 => ?_, hK _ ?_⟩; (focus (refine (tright_any kind key val _ hk hv).mono ?_; rintro e w3 ⟨rfl, hb3⟩; refine ⟨?_, below_to hw2 hb3⟩; rw [hr])); clear hK K)
  (refine wpQuiet_step (fun K hK => ?_); go_simp; apply Exists.intro; refine ⟨fun w2 hw2 => ?_, hK _ ?_⟩; (focus (obtain ⟨hc2, hf2⟩ := bcell hw2; go_simp; first | done | rfl)); clear hK K)
  (refine wpQuiet_step (fun K hK => ?_); go_simp; apply Exists.intro; refine ⟨fun w2 hw2 => ?_, hK _ ?_⟩; (focus (refine (rright_call kind key val _ hk hv).mono ?_; rintro e w3 ⟨rfl, hb3⟩; refine ⟨?_, below_to hw2 hb3⟩; rw [hr])); clear hK K)
  (refine wpQuiet_step (fun K hK => ?_); go_simp; first | (refine hK _ ?_; clear hK K) | (refine ⟨_, fun _ _ => rfl, hK _ ?_⟩; clear hK K))
  (refine wpQuiet_step (fun K hK => ?_); go_simp; first | (refine hK _ ?_; clear hK K) | (refine ⟨_, fun _ _ => rfl, hK _ ?_⟩; clear hK K))
  refine wpQuiet_nil ?_
  intro w7 hw7
  have hX7 := Lib.hid (hXV.out.below hw7 hxV)
  have HT7 := Lib.hid (HTV.out.below hw7 htV)
  have hb7 : Below w.heap.size w w7 := below_to hbV hw7
  have hcX7 := fun i => hX7.out.cell i
  have hx7 := hX7.out.lt
  have ht7 := HT7.out.lt
  clear hcV hw7
  go_wp2_with (first
    | (go_at_call 14
       refine (rright_call kind key val _ hk hv).mono ?_
       rintro e w8 ⟨rfl, hb8⟩
       rw [hr]
       have HT8 := Lib.hid (HT7.out.below hb8 ht7)
       have hX8 := Lib.hid (hX7.out.below hb8 hx7)
       have hb8 : Below w.heap.size w w8 := below_to hb7 hb8)
    | (go_at_call 5
       refine (reply_busy _ _ _ _ _ (HT8.out.cell 11)).mono ?_
       rintro e w9 ⟨rfl, hb9⟩
       have HT9 := Lib.hid (HT8.out.below hb9 HT8.out.lt)
       have hX9 := Lib.hid (hX8.out.below hb9 hX8.out.lt)
       have hb9 : Below w.heap.size w w9 := below_to hb8 hb9
       have hcX9 := fun i => hX9.out.cell i
       have hx9 := hX9.out.lt)
    | (go_at_call 8
       refine (pending_yes _ _ _ _ _ ((HT9.out.alloc _).cell 11)).mono ?_
       rintro e w2 ⟨rfl, rfl⟩)
    | (go_at_call 10
       refine (start_busy _ _ _ _ kind key val _ ((HT9.out.alloc _).cell 11) hk hv hr).mono ?_
       rintro e w10 ⟨rfl, hb10⟩
       have hb10 : Below w.heap.size w w10 := below_to (by repeat' (first | (with_reducible exact Below.refl _ _) | (with_reducible assumption) | (with_reducible refine Below.alloc ?_ ?_ _) | (with_reducible refine below_drewN ?_ _) | (with_reducible refine Below.drew ?_) | (with_reducible refine Below.setCell ?_ ?_ _) | go_size)) hb10)
    | (go_at_call 9
       refine (fis_same 11 _ eql11).mono ?_
       rintro e w2 ⟨rfl, rfl⟩)
    | (go_at_call 4
       refine (haw _).mono ?_
       rintro e w11 ⟨rfl, hb11⟩
       have hb11 : Below w.heap.size w w11 := below_to hb10 hb11))
  go_ret
  exact ⟨rfl, hb11⟩
theorem treecalls_any (haw : ∀ w, Calls Tryz.prog 4 #[] w (RetB (.bool true) w)) (kind n : Int) (key val : ByteArray) (w : World) (hk : key.size ≤ maxLen) (hv : val.size ≤ maxLen) :
    Calls Tryz.prog 3 #[.agg #[.int .i64 kind, .string key, .string val], .int .i64 n] w (RetB (.bool true) w) := by
  by_cases h : 1000 < key.size ∨ 1000 < val.size
  · exact treecalls_long haw kind n key val w hk hv h
  · cases hr : callOk kind key val
    · exact treecalls_bad haw kind n key val w hk hv (by omega) (by omega) hr
    · exact treecalls_good haw kind n key val w hk hv (by omega) (by omega) hr
end Go.Proofs.YthidclcliflhkaaGreat
end
section
open Go Go.RowKit
namespace Go.Proofs.YthidclcliflhkaaGreat

def aView : Rl.LeafView := ⟨⟨#[]⟩, ⟨#[]⟩, true, 0, [⟨aK, aV⟩], false⟩
theorem aRec_ok : RecOk aRec := ⟨by decide, by decide, by decide, by decide, by decide, ⟨by decide, by simp [aRec, recN]⟩, by decide⟩
theorem two_recs {C : List RecV} {a b : Rl.Rec} (h : C.map (·.r) = [a, b]) : ∃ x y, C = [x, y] ∧ x.r = a ∧ y.r = b := by
  rcases C with _ | ⟨x, _ | ⟨y, _ | ⟨z, C⟩⟩⟩
  · simp at h
  · simp at h
  · simp at h; exact ⟨x, y, rfl, h.1, h.2⟩
  · simp at h
theorem aw_recs (rv ev rv' ev' : Value) : recsOf (aS1 rv ev rv' ev') [1, 0] 2 = [aRec, baseRec] := rfl
theorem aw_leaf (rv ev rv' ev' : Value) : OneLeaf (aS1 rv ev rv' ev') aT1 aLim [1, 0] := by
  refine ⟨by decide, by decide, by simp [aS1, aS0], by rfl, ⟨?_, rfl⟩, by decide, by decide, ?_, by decide⟩
  · intro j hj
    match j, hj with
    | 0, _ => exact ⟨1, by simp [aS1, aS0], rfl, rfl, rfl, aRec_ok⟩
    | 1, _ => exact ⟨0, by simp [aS1, aS0], rfl, rfl, rfl, baseRec_ok⟩
  · intro C hC
    rw [show ([1, 0] : List Nat).length = 2 from rfl, aw_recs] at hC
    obtain ⟨x, y, rfl, h1, h2⟩ := two_recs hC
    focus
      refine ⟨rfl, by decide, fun h => ?_, fun i hi h' hm => ?_, fun z hz => ?_⟩
      · show y.r.kind = 1 ∧ _
        rw [show ([x, y] : List RecV)[[1, 0].length - 1] = y from rfl, h2]
        exact ⟨rfl, rfl, by decide⟩
      · obtain rfl : i = 0 := by simp at hi; omega
        rw [show ([x, y] : List RecV)[[1, 0].length - 1] = y from rfl, show ([x, y] : List RecV)[0] = x from rfl, h1, h2]
        exact ⟨rfl, rfl, rfl⟩
      · rcases List.mem_cons.1 hz with rfl | hz
        · rw [h1]; exact aRec_ok
        · obtain rfl : z = y := by simpa using hz
          rw [h2]; exact baseRec_ok
theorem aw_view (rv ev rv' ev' : Value) (C : List RecV) (hC : C.map (·.r) = recsOf (aS1 rv ev rv' ev') [1, 0] [1, 0].length) : viewAt C = aView := by
  rw [show ([1, 0] : List Nat).length = 2 from rfl, aw_recs] at hC
  obtain ⟨x, y, rfl, h1, h2⟩ := two_recs hC
  focus
    show ({ (⟨y.r.low, y.r.high, y.r.unb, y.r.right, y.r.rows, false⟩ : Rl.LeafView) with rows := Rl.rowsPut y.r.rows ⟨x.r.key, x.r.value⟩ } : Rl.LeafView) = aView
    rw [h1, h2]
    rfl
set_option maxRecDepth 100000 in
set_option maxHeartbeats 2000000 in
theorem awake_any (w : World) : Calls Tryz.prog 4 #[] w (RetB (.bool true) w) := by
  go_enter Tryz.func4, Tryz.ntmps4
  go_wp2_with (first
    | (go_at_call 15
       refine (mnew_any 20 4 2 4 4 99 _ (by decide) (by decide) (by decide) (by decide) (by decide) (by decide)).mono ?_
       rintro e w1 ⟨b, rv, ev, rfl, hM1, hb1, hbF⟩
       have HM1 := Lib.hid hM1
       have HB1 := Lib.hid hb1
       have HBF := Lib.hid hbF
       clear hM1 hb1 hbF)
    | (go_at_call 12
       refine (newthread_any _ _).mono ?_
       rintro e w2 ⟨rfl, hT2, hb2⟩
       have HM2 := Lib.hid (HM1.out.below hb2)
       have HT2 := Lib.hid hT2
       have HB2 := Lib.hid (below_to HB1.out hb2)
       clear hT2 hb2)
    | (go_at_call 10
       refine (start_ok w1.heap.size 0 false 0 ⟨#[]⟩ ⟨#[]⟩ false ⟨#[]⟩ .nilIface 2 aK aV _ HT2.out (by decide) (by decide) (by rfl)).mono ?_
       rintro e w3 ⟨rfl, hT3, hF3⟩
       have HM3 := Lib.hid (HM2.out.fr hF3 (HM2.out.off HT2.out (by decide) (by decide) (by decide) (by decide) (by decide) (by decide) (by decide) (by decide)))
       have HT3 := Lib.hid hT3
       have HB3 := Lib.hid (fr_below HB2.out hF3 (by intro g hg; simp at hg; subst hg; exact HB1.out.size))
       clear hT3 hF3))
  have hs1 := HB1.out.size
  have h0 : AwSt w b w1.heap.size 0 w3 := ⟨HB3.out, rv, ev, HM3.out, HT3.out⟩
  have H0 := Lib.hid h0
  clear h0
  clear HM1 HM2 HM3 HT2 HT3 HB1 HB2
  go_loopw [20] (fun i wr => ∃ j : Nat, j ≤ 6 ∧ i = .int .i64 j ∧ AwSt w b w1.heap.size j wr) (fun i _ => 6 - (intOf i).toNat)
  case atStart => exact ⟨0, by decide, rfl, H0.out⟩
  case round =>
    obtain ⟨j, hj, rfl, hA⟩ := hrel
    have HA := Lib.hid hA
    clear hA
    by_cases hj6 : j < 6
    · go_wp2_with (go_at_call 7
                   refine (awstep HBF.out hs1 j hj6 HA.out).mono ?_
                   rintro e w4 ⟨rfl, hA4⟩
                   have HA4 := Lib.hid hA4
                   clear hA4)
      refine ⟨⟨j + 1, by omega, by go_num, HA4.out⟩, by simp [intOf]; omega⟩
    · obtain rfl : j = 6 := by omega
      have h6 := HA.out
      obtain ⟨_, rv1, ev1, rv2, ev2, bx, _, _, hT6⟩ := h6
      have hc11 := Lib.hid (show _ = some (leaveFn bx) from hT6.cell 11)
      clear hT6
      go_wp2_with (first
        | (go_at_call 8
           refine (pending_yes _ _ _ _ _ hc11.out).mono ?_
           rintro e w4 ⟨rfl, rfl⟩)
        | (go_at_call 7
           refine (aw6 HBF.out hs1 HA.out).mono ?_
           rintro e w5 ⟨rfl, hA5⟩
           have HA5 := Lib.hid hA5
           clear hA5))
      obtain ⟨hb5, rv3, ev3, rv4, ev4, hM5, hT5⟩ := HA5.out
      have HB5 := Lib.hid hb5
      have HM5 := Lib.hid hM5
      have HT5 := Lib.hid hT5
      clear hb5 hM5 hT5 HA5
      refine (reply_done w1.heap.size 0 2 aK aV true ⟨#[]⟩ _ HT5.out).mono ?_
      rintro e w6 ⟨rfl, hb6⟩
      have HB6 := Lib.hid (below_to HB5.out hb6)
      have hs6 := HB6.out.size
      have HM6 := Lib.hid (HM5.out.below hb6)
      have HT6 := Lib.hid (HT5.out.below hb6 HT5.out.lt)
      clear hb6 HM5 HT5 HB5
      go_wp2_with (go_at_call 16
                   refine (scan_one b aLim 7 (aS1 rv3 ev3 rv4 ev4) aT1 2 1 _ [1, 0] aView _ (HM6.out.below (by repeat' (first | (with_reducible exact Below.refl _ _) | (with_reducible assumption) | (with_reducible refine Below.alloc ?_ ?_ _) | (with_reducible refine below_drewN ?_ _) | (with_reducible refine Below.drew ?_) | (with_reducible refine Below.setCell ?_ ?_ _) | go_size))) (aw_leaf _ _ _ _) (aw_view _ _ _ _) rfl (by decide)).mono ?_
                   rintro e w7 ⟨A, c, rfl, hO7, hb7⟩
                   have h0 : Blk (w6.alloc (.cells #[.string ⟨#[]⟩, .nilIface] 29)) w6.heap.size 29 #[.string ⟨#[]⟩, .nilIface] := Blk.new_at rfl
                   have HY7 := Lib.hid (h0.below hb7 h0.lt)
                   have HT7 := Lib.hid (Blk.below (HT6.out.alloc _) hb7 (by have := HT6.out.lt; simp; omega))
                   have HB7 := Lib.hid (below_to (Below.alloc HB6.out hs6 (.cells #[.string ⟨#[]⟩, .nilIface] 29)) hb7)
                   have HO7 := Lib.hid hO7
                   clear hO7 hb7 h0)
      obtain ⟨g, cap, hv, _, hg7⟩ := HO7.out.form (by decide)
      obtain ⟨rfl, rfl⟩ : A = some ⟨g, 0, none⟩ ∧ c = cap := by injection hv with a b c; exact ⟨a, c⟩
      clear hv
      have hq1 : w7.cell? ⟨g, 1, none⟩ = some (.string aV) := HO7.out.cellAt 1 (by decide)
      simp only [aV] at hq1
      have hcY := fun i => HY7.out.cell i
      have hnil : w7.cell? ⟨w1.heap.size, 11, none⟩ = some .nilFunc := HT7.out.cell 11
      have hnf := neq_nil
      have hl1 : aView.rows.length = 1 := rfl
      rw [hl1]
      go_wp2_with (go_at_call 8
                   refine (pending_no _ _ hnil).mono ?_
                   rintro e w8 ⟨rfl, rfl⟩)
      go_ret
      exact ⟨rfl, HB7.out⟩
end Go.Proofs.YthidclcliflhkaaGreat
end
