/- TreeCalls, given what awake answers. A thread that installs: its accesses; any access: contracts. -/
import Derived.Test.YthidclcliflhkaaGreatZ13
import Derived.Test.YthidclcliflhkaaGreatZ19
section
open Go Go.RowKit
namespace Go.Proofs.YthidclcliflhkaaGreat

set_option maxRecDepth 100000 in
set_option maxHeartbeats 1000000 in
theorem treecalls_long (haw : ∀ w, Calls Tryz.prog 4 #[] w (RetB (.bool true) w)) (kind n : Int) (key val : ByteArray) (w : World) (hk : key.size ≤ maxLen) (hv : val.size ≤ maxLen) (hl : 1000 < key.size ∨ 1000 < val.size) :
    Calls Tryz.prog 3 #[.agg #[.int .i64 kind, .string key, .string val], .int .i64 n] w (RetB (.bool true) w) := by
  by_cases h1 : 1000 < key.size
  · go_enter Tryz.func3, Tryz.ntmps3
    go_wp2_with (go_at_call 4
                 refine (haw _).mono ?_
                 rintro e w1 ⟨rfl, hb1⟩
                 have hb1 : Below w.heap.size w w1 := below_to (by repeat' (first | (with_reducible exact Below.refl _ _) | (with_reducible assumption) | (with_reducible refine Below.alloc ?_ ?_ _) | (with_reducible refine below_drewN ?_ _) | (with_reducible refine Below.drew ?_) | (with_reducible refine Below.setCell ?_ ?_ _) | go_size)) hb1)
    go_ret
    exact ⟨rfl, hb1⟩
  · have h2 : 1000 < val.size := by omega
    go_enter Tryz.func3, Tryz.ntmps3
    go_wp2_with (go_at_call 4
                 refine (haw _).mono ?_
                 rintro e w1 ⟨rfl, hb1⟩
                 have hb1 : Below w.heap.size w w1 := below_to (by repeat' (first | (with_reducible exact Below.refl _ _) | (with_reducible assumption) | (with_reducible refine Below.alloc ?_ ?_ _) | (with_reducible refine below_drewN ?_ _) | (with_reducible refine Below.drew ?_) | (with_reducible refine Below.setCell ?_ ?_ _) | go_size)) hb1)
    go_ret
    exact ⟨rfl, hb1⟩
theorem pending_nil (w : World) : Calls Tryz.prog 8 #[.pointer none] w fun e w' => e = .returned (.bool false) ∧ w' = w := by
  go_enter Tryz.func8, Tryz.ntmps8
  go_wp2_with fail
  go_ret
  exact ⟨rfl, rfl⟩
theorem pending_no (bt : Nat) (w : World) (hc : w.cell? ⟨bt, 11, none⟩ = some .nilFunc) : Calls Tryz.prog 8 #[.pointer (some ⟨bt, 0, none⟩)] w fun e w' => e = .returned (.bool false) ∧ w' = w := by
  have hnf := neq_nil
  go_enter Tryz.func8, Tryz.ntmps8
  go_wp2_with fail
  go_ret
  exact ⟨rfl, rfl⟩
theorem pending_yes (bt : Nat) (f : Fn) (fa fb : Array Value) (w : World) (hc : w.cell? ⟨bt, 11, none⟩ = some (.func f fa fb)) : Calls Tryz.prog 8 #[.pointer (some ⟨bt, 0, none⟩)] w fun e w' => e = .returned (.bool true) ∧ w' = w := by
  have hnf := neq_fn
  go_enter Tryz.func8, Tryz.ntmps8
  go_wp2_with fail
  go_ret
  exact ⟨rfl, rfl⟩
theorem sweep_nil (w : World) : Calls Tryz.prog 6 #[.pointer none] w fun e w' => (∃ v, e = .returned v) ∧ w' = w := by
  go_enter Tryz.func6, Tryz.ntmps6
  go_wp2_with fail
  first
  | (go_end0; exact ⟨⟨_, rfl⟩, rfl⟩)
  | (go_ret; exact ⟨⟨_, rfl⟩, rfl⟩)
theorem step_nil (w : World) : Calls Tryz.prog 7 #[.pointer none, .pointer none] w fun e w' => e = .returned (.bool true) ∧ w' = w := by
  go_enter Tryz.func7, Tryz.ntmps7
  go_wp2_with (go_at_call 8
               refine (pending_nil _).mono ?_
               rintro e w1 ⟨rfl, rfl⟩)
  go_ret
  exact ⟨rfl, rfl⟩
theorem bin_nil (w : World) : Calls Tryz.prog 11 #[.pointer none] w fun e w' => e = .returned (.slice none 0 0) ∧ w' = w := by
  go_enter Tryz.func11, Tryz.ntmps11
  go_wp2_with fail
  go_ret
  exact ⟨rfl, rfl⟩
set_option maxRecDepth 100000 in
set_option maxHeartbeats 2000000 in
theorem treecalls_bad (haw : ∀ w, Calls Tryz.prog 4 #[] w (RetB (.bool true) w)) (kind n : Int) (key val : ByteArray) (w : World) (hk : key.size ≤ maxLen) (hv : val.size ≤ maxLen) (h1 : key.size ≤ 1000) (h2 : val.size ≤ 1000) (hr : callOk kind key val = false) :
    Calls Tryz.prog 3 #[.agg #[.int .i64 kind, .string key, .string val], .int .i64 n] w (RetB (.bool true) w) := by
  go_enter Tryz.func3, Tryz.ntmps3
  go_wp2_with (first
    | (go_at_call 5
       refine (reply_nil _).mono ?_
       rintro e w1 ⟨rfl, hb1⟩
       have hX1 := Lib.hid (Blk.below (Blk.new_at (b := w.heap.size) rfl) hb1 (by first | (simp; done) | (simp; omega) | omega))
       have hx1 := hX1.out.lt
       have hb1 : Below w.heap.size w w1 := below_to (by repeat' (first | (with_reducible exact Below.refl _ _) | (with_reducible assumption) | (with_reducible refine Below.alloc ?_ ?_ _) | (with_reducible refine below_drewN ?_ _) | (with_reducible refine Below.drew ?_) | (with_reducible refine Below.setCell ?_ ?_ _) | go_size)) hb1
       have hcX := fun i => hX1.out.cell i)
    | (go_at_call 6
       refine (sweep_nil _).mono ?_
       rintro e w2 ⟨⟨v2, rfl⟩, rfl⟩)
    | (go_at_call 7
       refine (step_nil _).mono ?_
       rintro e w2 ⟨rfl, rfl⟩)
    | (go_at_call 8
       refine (pending_nil _).mono ?_
       rintro e w2 ⟨rfl, rfl⟩)
    | (go_at_call 9
       refine (fis_same 1 _ eql1).mono ?_
       rintro e w2 ⟨rfl, rfl⟩)
    | (go_at_call 11
       refine (bin_nil _).mono ?_
       rintro e w2 ⟨rfl, rfl⟩)
    | (go_at_call 10
       refine (start_nil _ _ _ _).mono ?_
       rintro e w3 ⟨rfl, hb3⟩
       have hX3 := Lib.hid (Blk.below (hX1.out.alloc _) hb3 (by first | (simp; done) | (simp; omega) | omega))
       have hx3 := hX3.out.lt
       have hb3 : Below w.heap.size w w3 := below_to (by repeat' (first | (with_reducible exact Below.refl _ _) | (with_reducible assumption) | (with_reducible refine Below.alloc ?_ ?_ _) | (with_reducible refine below_drewN ?_ _) | (with_reducible refine Below.drew ?_) | (with_reducible refine Below.setCell ?_ ?_ _) | go_size)) hb3
       have hcX3 := fun i => hX3.out.cell i))
  clear hcX
  go_wp2_with (first
    | (go_at_call 12
       refine (newthread_any _ _).mono ?_
       rintro e w4 ⟨rfl, hT4, hb4⟩
       have hX4 := Lib.hid (hX3.out.below hb4 hx3)
       have HT4 := Lib.hid hT4
       have ht4 := hT4.lt
       clear hT4
       have hb4 : Below w.heap.size w w4 := below_to hb3 hb4)
    | (go_at_call 5
       refine (reply_new w2.heap.size n 0 ⟨#[]⟩ ⟨#[]⟩ false ⟨#[]⟩ .nilIface _ HT4.out).mono ?_
       rintro e w5 ⟨rfl, hb5⟩
       have hX5 := Lib.hid (hX4.out.below hb5 hX4.out.lt)
       have HT5 := Lib.hid (HT4.out.below hb5 ht4)
       have hb5 : Below w.heap.size w w5 := below_to hb4 hb5
       have hcX5 := fun i => hX5.out.cell i
       have hx5 := hX5.out.lt
       have ht5 := HT5.out.lt)
    | (go_at_call 10
       refine (start_bad none kind key val _ hk hv hr w2.heap.size).mono ?_
       rintro e w6 ⟨rfl, hb6⟩
       have hX6 := Lib.hid (Blk.below (hX5.out.alloc _) hb6 (by first | (simp; done) | (simp; omega) | omega))
       have HT6 := Lib.hid (Blk.below (HT5.out.alloc _) hb6 (by first | (simp; done) | (simp; omega) | omega))
       have hb6 : Below w.heap.size w w6 := below_to (by repeat' (first | (with_reducible exact Below.refl _ _) | (with_reducible assumption) | (with_reducible refine Below.alloc ?_ ?_ _) | (with_reducible refine below_drewN ?_ _) | (with_reducible refine Below.drew ?_) | (with_reducible refine Below.setCell ?_ ?_ _) | go_size)) hb6
       have hcX6 := fun i => hX6.out.cell i
       have hx6 := hX6.out.lt
       have ht6 := HT6.out.lt))
  have hne : (false == false) = true := rfl
  refine wp_name ?_
  intro V HV
  have hbV : Below w.heap.size w V := by rw [← HV.out]; exact (by repeat' (first | (with_reducible exact Below.refl _ _) | (with_reducible assumption) | (with_reducible refine Below.alloc ?_ ?_ _) | (with_reducible refine below_drewN ?_ _) | (with_reducible refine Below.drew ?_) | (with_reducible refine Below.setCell ?_ ?_ _) | go_size))
  have hXV := Lib.hid (show Blk V w.heap.size 23 #[.int .i64 kind, .string key, .string val] by rw [← HV.out]; exact hX6.out)
  have HTV := Lib.hid (show Blk V w2.heap.size 66 (thrC n false 0 ⟨#[]⟩ ⟨#[]⟩ false ⟨#[]⟩ .nilIface .nilFunc) by rw [← HV.out]; exact HT6.out)
  clear HV hcX6 hX6 HT6 hcX5 hX5 HT5 hX4 HT4 hX3 hX1 hcX3
  have hcV := fun i => hXV.out.cell i
  have hxV := hXV.out.lt
  have htV := HTV.out.lt
  refine wp_region_new (by kernel_rfl) (by kernel_rfl) ?_
  (refine wpQuiet_step (fun K hK => ?_); go_simp; first | (refine hK _ ?_; clear hK K) | (refine ⟨_, fun _ _ => rfl, hK _ ?_⟩; clear hK K))
  (refine wpQuiet_step (fun K hK => ?_); go_simp; apply Exists.intro; refine ⟨fun w2 hw2 => ?_, hK _ ?_⟩; (focus (refine (fis_same 13 w2 eql13).mono ?_; rintro e w3 ⟨rfl, rfl⟩; exact ⟨rfl, hw2⟩)); clear hK K)
  (refine wpQuiet_step (fun K hK => ?_); go_simp; first | (refine hK _ ?_; clear hK K) | (refine ⟨_, fun _ _ => rfl, hK _ ?_⟩; clear hK K))
  (refine wpQuiet_step (fun K hK => ?_); go_simp; first | (refine hK _ ?_; clear hK K) | (refine ⟨_, fun _ _ => rfl, hK _ ?_⟩; clear hK K))
  (refine wpQuiet_step (fun K hK => ?_); go_simp; apply Exists.intro; refine ⟨fun w2 hw2 => ?_, hK _ ?_⟩; (focus (obtain ⟨hc2, hf2⟩ := bcell hw2; go_simp; first | done | rfl)); clear hK K)
  (refine wpQuiet_step (fun K hK => ?_); go_simp; apply Exists.intro; refine ⟨fun w2 hw2 => ?_, hK _ ?_⟩; (focus (refine (tright_any kind key val _ hk hv).mono ?_; rintro e w3 ⟨rfl, hb3⟩; refine ⟨?_, below_to hw2 hb3⟩; rw [hr])); clear hK K)
  (refine wpQuiet_step (fun K hK => ?_); go_simp; apply Exists.intro; refine ⟨fun w2 hw2 => ?_, hK _ ?_⟩; (focus (obtain ⟨hc2, hf2⟩ := bcell hw2; go_simp; first | done | rfl)); clear hK K)
  (refine wpQuiet_step (fun K hK => ?_); go_simp; apply Exists.intro; refine ⟨fun w2 hw2 => ?_, hK _ ?_⟩; (focus (refine (rright_call kind key val _ hk hv).mono ?_; rintro e w3 ⟨rfl, hb3⟩; refine ⟨?_, below_to hw2 hb3⟩; rw [hr])); clear hK K)
  (refine wpQuiet_step (fun K hK => ?_); go_simp; first | (refine hK _ ?_; clear hK K) | (refine ⟨_, fun _ _ => rfl, hK _ ?_⟩; clear hK K))
  (refine wpQuiet_step (fun K hK => ?_); go_simp; first | (refine hK _ ?_; clear hK K) | (refine ⟨_, fun _ _ => rfl, hK _ ?_⟩; clear hK K))
  refine wpQuiet_nil ?_
  intro w7 hw7
  have hX7 := Lib.hid (hXV.out.below hw7 hxV)
  have HT7 := Lib.hid (HTV.out.below hw7 htV)
  have hb7 : Below w.heap.size w w7 := below_to hbV hw7
  have hcX7 := fun i => hX7.out.cell i
  have hx7 := hX7.out.lt
  have ht7 := HT7.out.lt
  clear hcV hw7
  go_wp2_with (first
    | (go_at_call 14
       refine (rright_call kind key val _ hk hv).mono ?_
       rintro e w8 ⟨rfl, hb8⟩
       rw [hr]
       have HT8 := Lib.hid (HT7.out.below hb8 ht7)
       have hb8 : Below w.heap.size w w8 := below_to hb7 hb8)
    | (go_at_call 9
       refine (fis_same 1 _ eql1).mono ?_
       rintro e w2 ⟨rfl, rfl⟩)
    | (go_at_call 8
       refine (pending_no _ _ (HT8.out.cell 11)).mono ?_
       rintro e w2 ⟨rfl, rfl⟩)
    | (go_at_call 4
       refine (haw _).mono ?_
       rintro e w9 ⟨rfl, hb9⟩
       have hb9 : Below w.heap.size w w9 := below_to hb8 hb9))
  go_ret
  exact ⟨rfl, hb9⟩
end Go.Proofs.YthidclcliflhkaaGreat
end
section
open Go Go.RowKit
namespace Go.Proofs.YthidclcliflhkaaGreat

set_option maxRecDepth 100000 in
set_option maxHeartbeats 1000000 in
theorem inst1_head (bt : Nat) (pn os og : Int) (r : Rl.Rec) (br : Nat) (n : Int) (bg : Bool) (kind : Int) (key val : ByteArray) (wr : Bool) (rs : ByteArray) (re thn : Value) (bi bq bx bh : Nat)
    (b : MB) (lim : Rl.Limits) (count : Int) (S : List SlotV) (T : List Rl.Pg) (now : Int) (k : Nat) (D : DataW Unit) (k0 : Nat) (w : World)
    (hI : Insts w bt pn os og 3 r none 0 0 none 0 0 br (.slice none 0 0) n bg kind key val wr rs re thn bi bq bx bh) (hre : r.rows = []) (hee : r.entries = [])
    (hM : MemAt w b lim count S T now k D) (hok : RecOk r) (hk : k0 < S.length) (hlen : S.length ≤ 4096)
    (hu : ∀ k (h : k < k0), S[k].s.used = true) (hk0 : S[k0].s.used = false) (hg0 : S[k0].s.gen < lim.count) (hlast : lim.count ≤ 1099511627776) (hg1 : 0 ≤ S[k0].s.gen) (hc0 : 0 ≤ count) (hc1 : count ≤ 1099511627776) :
    Calls Tryz.prog 145 #[.pointer (some ⟨b.m, 0, none⟩), .pointer (some ⟨bq, 0, none⟩), .pointer (some ⟨bx, 0, none⟩), .pointer (some ⟨bh, 0, none⟩)] w fun e w' => e = .returned (.bool false) ∧ ∃ g c' rv' ev',
      Insts w' bt pn os og 4 r none 0 0 none 0 0 br (.slice (some ⟨g, 0, none⟩) 1 c') n bg kind key val wr rs re thn bi bq bx bh ∧ w'.ownsRow 0 55 2 (.slice (some ⟨g, 0, none⟩) 1 c') 1 [.int .i64 (k0 + 1), .int .i64 (S[k0].s.gen + 1)] ∧
      MemAt w' b lim (count + 1) (S.set k0 ⟨⟨S[k0].s.gen + 1, true, r⟩, rv', ev'⟩) T now k D ∧ Fr (bi :: b.F) w w' := by
  have hql := hI.q.lt
  have hcQ := fun i => hI.q.cell i
  have hil := hI.i.lt
  have hc5 : w.cell? ⟨bi, 5, none⟩ = some (.int .i64 3) := hI.i.cell 5
  have nq : bq ∉ bi :: b.F := by
    intro h
    rcases List.mem_cons.1 h with h | h
    · exact Blk.ne_ hI.q hI.i (by decide) h
    · exact hM.nF hI.q (by decide) (by decide) (by decide) (by decide) h
  have nx : bx ∉ bi :: b.F := by
    intro h
    rcases List.mem_cons.1 h with h | h
    · exact Blk.ne_ hI.x hI.i (by decide) h
    · exact hM.nF hI.x (by decide) (by decide) (by decide) (by decide) h
  have nh : bh ∉ bi :: b.F := by
    intro h
    rcases List.mem_cons.1 h with h | h
    · exact Blk.ne_ hI.h hI.i (by decide) h
    · exact hM.nF hI.h (by decide) (by decide) (by decide) (by decide) h
  have nt : bt ∉ bi :: b.F := by
    intro h
    rcases List.mem_cons.1 h with h | h
    · exact Blk.ne_ hI.t hI.i (by decide) h
    · exact hM.nF hI.t (by decide) (by decide) (by decide) (by decide) h
  have HI := Lib.hid hI
  have HM := Lib.hid hM
  have Hre := Lib.hid hre
  have Hee := Lib.hid hee
  have hRA : RecAt w r (.slice none 0 0) (.slice none 0 0) := ⟨by rw [hre]; exact OwnV.nil _ _, by rw [hee]; exact OwnE.nil _ _⟩
  have hf := Lib.hid (istep_fwd bi 3 (.pointer (some ⟨b.m, 0, none⟩)) false _ w hc5 (by decide) (by decide) (by decide) (fwd_head bi pn os og 0 (onlyFn br) (.slice none 0 0) (.slice none 0 0) r _ _ none 0 0 [] 0 false 0 b lim count S T now k D k0 w hI.i (World.ownsRow_nil _ _ _ _) (Nat.zero_le _) (by decide) hM hRA hok hk hlen hu hk0 hg0 hlast hg1 hc0 hc1))
  clear hI hM hre hee hRA hc5
  go_enter Tryz.func145, Tryz.ntmps145
  go_wp2_with (go_at_call 146
               refine hf.out.mono ?_
               rintro e w1 ⟨rfl, A', c', rv', ev', hI1, hO1, hM1, hF1⟩)
  go_ret
  have hF1 : Fr (bi :: b.F) w w1 := hF1
  obtain ⟨g, cap, hv, _, _⟩ := hO1.form (by decide)
  obtain ⟨rfl, rfl⟩ : A' = some ⟨g, 0, none⟩ ∧ c' = cap := by injection hv with a b c; exact ⟨a, c⟩
  exact ⟨rfl, g, c', rv', ev', ⟨hI1, hF1.blk HI.out.q nq, hF1.blk HI.out.x nx, hF1.blk HI.out.h nh, hF1.blk HI.out.t nt⟩, hO1, hM1, hF1⟩
set_option maxRecDepth 100000 in
set_option maxHeartbeats 1000000 in
theorem inst1_swap (bt : Nat) (pn : Nat) (os og : Int) (r : Rl.Rec) (br : Nat) (n : Int) (bg : Bool) (kind : Int) (key val : ByteArray) (wr : Bool) (rs : ByteArray) (re : Value) (bi bq bx bh bxa bo : Nat) (g c : Nat) (xs xg : Int) (rs' : ByteArray)
    (b : MB) (lim : Rl.Limits) (count : Int) (S : List SlotV) (T : List Rl.Pg) (now : Int) (k : Nat) (D : DataW Unit) (w : World)
    (hI : Insts w bt pn os og 4 r none 0 0 none 0 0 br (.slice (some ⟨g, 0, none⟩) 1 c) n bg kind key val wr rs re (actFn bxa bo) bi bq bx bh) (hO : w.ownsRow 0 55 2 (.slice (some ⟨g, 0, none⟩) 1 c) 1 [.int .i64 xs, .int .i64 xg])
    (hX : Blk w bxa 25 #[.pointer (some ⟨bt, 0, none⟩)]) (hY : Blk w bo 29 #[.string rs', .nilIface])
    (hM : MemAt w b lim count S T now k D) (hk : pn < T.length) (hlen : T.length ≤ 256) (hu : T[pn].used = true) (hs : T[pn].head = ⟨os, og⟩) (hc0 : 0 ≤ count) (hc1 : count ≤ 1099511627776) :
    Calls Tryz.prog 145 #[.pointer (some ⟨b.m, 0, none⟩), .pointer (some ⟨bq, 0, none⟩), .pointer (some ⟨bx, 0, none⟩), .pointer (some ⟨bh, 0, none⟩)] w fun e w' => e = .returned (.bool false) ∧ ∃ bx,
      Blk w' bx 25 #[.pointer (some ⟨bt, 0, none⟩)] ∧ Blk w' bt 66 (thrC n bg kind key val wr rs' .nilIface (leaveFn bx)) ∧
      MemAt w' b lim (count + 1) S (T.set pn ⟨true, ⟨xs, xg⟩⟩) now k D ∧ Fr (bt :: bi :: b.F) w w' := by
  have hql := hI.q.lt
  have hcQ := fun i => hI.q.cell i
  have hil := hI.i.lt
  have hc5 : w.cell? ⟨bi, 5, none⟩ = some (.int .i64 4) := hI.i.cell 5
  have no {g2 : Nat} {t : TypeId} {cs : Array Value} (hb : Blk w g2 t cs) (h0 : t ≠ 257) (h1 : t ≠ 79) (h2 : t ≠ 120) (h3 : t ≠ 123) (h4 : t ≠ 117) : g2 ∉ bi :: b.F := by
    intro h
    rcases List.mem_cons.1 h with h | h
    · exact Blk.ne_ hb hI.i h0 h
    · exact hM.nF hb h1 h2 h3 h4 h
  have nq := no hI.q (by decide) (by decide) (by decide) (by decide) (by decide)
  have nx := no hI.x (by decide) (by decide) (by decide) (by decide) (by decide)
  have nh := no hI.h (by decide) (by decide) (by decide) (by decide) (by decide)
  have nt := no hI.t (by decide) (by decide) (by decide) (by decide) (by decide)
  have na := no hX (by decide) (by decide) (by decide) (by decide) (by decide)
  have ny := no hY (by decide) (by decide) (by decide) (by decide) (by decide)
  clear no
  have HI := Lib.hid hI
  have HM := Lib.hid hM
  have HX := Lib.hid hX
  have HY := Lib.hid hY
  have hf := Lib.hid (istep_fwd bi 4 (.pointer (some ⟨b.m, 0, none⟩)) true _ w hc5 (by decide) (by decide) (by decide) (fwd_swap1 bi pn os og 0 (onlyFn br) (.slice none 0 0) (.slice none 0 0) r _ _ g c xs xg 0 false b lim count S T now k D w hI.i 0 hO hM hk hlen hu hs hc0 hc1))
  clear hI hM hO hX hY hc5
  go_enter Tryz.func145, Tryz.ntmps145
  go_wp2_with (first
    | (go_at_call 146
       refine hf.out.mono ?_
       rintro e w1 ⟨rfl, hI1, hO1, hM1, hF1⟩
       have HI1 := Lib.hid hI1
       have HM1 := Lib.hid hM1
       have HF1 := Lib.hid hF1
       have HQ1 := Lib.hid (hF1.blk HI.out.q nq)
       have HH1 := Lib.hid (hF1.blk HI.out.h nh)
       have HT1 := Lib.hid (hF1.blk HI.out.t nt)
       have HA1 := Lib.hid (hF1.blk HX.out na)
       have HY1 := Lib.hid (hF1.blk HY.out ny)
       clear hI1 hO1 hM1 hF1 hcQ
       have hcQ := fun i => HQ1.out.cell i
       have hq1 := HQ1.out.lt)
    | (go_at_call 147
       refine (idone_any bi pn os og 0 (onlyFn br) (.slice none 0 0) (.slice none 0 0) r _ _ _ 0 true .nilIface _ HI1.out).mono ?_
       rintro e w2 ⟨rfl, hb2⟩
       have HM2 := Lib.hid (HM1.out.below hb2)
       have HF2 := Lib.hid (HF1.out.then_below hb2)
       have HH2 := Lib.hid (HH1.out.below hb2 HH1.out.lt)
       have HT2 := Lib.hid (HT1.out.below hb2 HT1.out.lt)
       have HA2 := Lib.hid (HA1.out.below hb2 HA1.out.lt)
       have HY2 := Lib.hid (HY1.out.below hb2 HY1.out.lt)
       clear hb2 hcQ
       have hcH := fun i => HH2.out.cell i
       have hh2 := HH2.out.lt
       simp only [actFn] at hcH)
    | (go_at_call 128
       refine (act1_ok bt bxa bo n bg kind key val wr rs re _ rs' _ HT2.out HA2.out HY2.out).mono ?_
       rintro e w3 ⟨rfl, bx3, hX3, hT3, hF3⟩))
  go_ret
  have nF := HM2.out.off HT2.out (by decide) (by decide) (by decide) (by decide) (by decide) (by decide) (by decide) (by decide)
  exact ⟨rfl, bx3, hX3, hT3, HM2.out.fr hF3 nF, (HF2.out.mono (by intro g hg; simp at hg; simp [hg])).trans (hF3.mono (by intro g hg; simp at hg; simp [hg]))⟩
set_option maxRecDepth 100000 in
set_option maxHeartbeats 1000000 in
/-- Any access: the thread's function is called. -/
theorem tstep_fn (bt : Nat) (f : FuncId) (fa fb : Array Value) (m : Value) (x : Bool) (R : World → Prop) (w : World) (h11 : w.cell? ⟨bt, 11, none⟩ = some (.func (.func f) fa fb))
    (hr : ∀ w, (callFunc f (fa.push m ++ fb)).run Tryz.prog w = .ok (.enter f (fa.push m ++ fb)) w) (hf : Calls Tryz.prog f (fa.push m ++ fb) w fun e w' => e = .returned (.bool x) ∧ R w') :
    Calls Tryz.prog 7 #[.pointer (some ⟨bt, 0, none⟩), m] w fun e w' => e = .returned (.bool x) ∧ R w' := by
  have HF := Lib.hid hf
  clear hf
  go_enter Tryz.func7, Tryz.ntmps7
  go_wp2_with (first
    | (go_at_call 8
       refine (pending_yes bt _ _ _ _ h11).mono ?_
       rintro e w2 ⟨rfl, rfl⟩)
    | (refine HF.out.mono ?_
       rintro e w2 ⟨rfl, hR⟩))
  go_ret
  exact ⟨rfl, hR⟩
theorem run_bump (a : Array Value) (w : World) : (callFunc 19 a).run Tryz.prog w = .ok (.enter 19 a) w := by kernel_rfl
theorem run_bump1 (a : Array Value) (w : World) : (callFunc 42 a).run Tryz.prog w = .ok (.enter 42 a) w := by kernel_rfl
theorem run_walk1 (a : Array Value) (w : World) : (callFunc 80 a).run Tryz.prog w = .ok (.enter 80 a) w := by kernel_rfl
theorem run_inst1 (a : Array Value) (w : World) : (callFunc 145 a).run Tryz.prog w = .ok (.enter 145 a) w := by kernel_rfl
theorem run_leave1 (a : Array Value) (w : World) : (callFunc 113 a).run Tryz.prog w = .ok (.enter 113 a) w := by kernel_rfl
end Go.Proofs.YthidclcliflhkaaGreat
end
