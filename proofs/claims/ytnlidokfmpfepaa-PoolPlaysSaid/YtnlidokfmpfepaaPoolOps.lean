import Derived.Test.YtnlidokfmpfepaaPool
set_option linter.unusedVariables false
set_option linter.unusedSimpArgs false
namespace Go.Proofs.Ytnlidokfmpfepaa.Pool
open Go.RowKit Go.Proofs.Ytnlidokfmpfepaa.Kit Go.Maps

theorem take_snoc (l : List Int) (k : Nat) (h : k < l.length) : l.take (k + 1) = l.take k ++ [l.getD k 0] := by
  rw [List.take_succ_eq_append_getElem h, List.getD_eq_getElem?_getD, List.getElem?_eq_getElem h]
  rfl
theorem mem_at (l : List Int) (k : Nat) (h : k < l.length) : l.getD k 0 ∈ l := by
  rw [List.getD_eq_getElem?_getD, List.getElem?_eq_getElem h]
  exact List.getElem_mem _
theorem find_miss (l : List Int) (p : Int → Bool) (k : Nat) (h : k < l.length) (h0 : (l.take k).find? p = none) (hp : p (l.getD k 0) = false) : (l.take (k + 1)).find? p = none := by
  rw [take_snoc l k h, List.find?_append, h0]
  simp only [List.find?_cons, hp, List.find?_nil, Option.or_none]
theorem find_hit (l : List Int) (p : Int → Bool) (k : Nat) (h : k < l.length) (h0 : (l.take k).find? p = none) (hp : p (l.getD k 0) = true) : l.find? p = some (l.getD k 0) := by
  have e : l = l.take (k + 1) ++ l.drop (k + 1) := (List.take_append_drop _ _).symm
  have e2 : (l.take (k + 1)).find? p = some (l.getD k 0) := by
    rw [take_snoc l k h, List.find?_append, h0]
    simp only [List.find?_cons, hp, Option.none_or]
  calc l.find? p = (l.take (k + 1) ++ l.drop (k + 1)).find? p := by rw [← e]
    _ = some (l.getD k 0) := by rw [List.find?_append, e2]; rfl

def fOpen (xs : List Int) (hs : List (Option Nat)) : Option Int := xs.find? (fun x => hAt hs x == some 2)

set_option maxHeartbeats 2000000 in
theorem open_any (b g n : Nat) (A : Option Addr) (m c : Nat) (xs : List Int) (hs : List (Option Nat)) (w : World) (h : PS w b g n A m c xs hs) :
    Calls Try.prog 27 #[.pointer (some ⟨b, 0, none⟩)] w fun e w' => e = .returned (.tuple #[.int .i64 ((fOpen xs hs).getD 0), .bool (fOpen xs hs).isSome]) ∧ w' = w := by
  obtain ⟨c0, c1⟩ := h.cells
  have hm := h.mm
  have hmc := h.mc
  have H := hid h
  have Hl := hid h.nums.len
  clear h
  go_enter Try.func27, Try.ntmps27
  go_wp2
  go_loopw [13] (fun i w' => ∃ k : Nat, k ≤ m ∧ i = .int .i64 (k : Int) ∧ (xs.take k).find? (fun x => hAt hs x == some 2) = none ∧ w' = w) (fun i _ => m - (intOf i).toNat)
  case atStart => exact ⟨0, by omega, rfl, rfl, rfl⟩
  case round =>
    obtain ⟨k, hk, rfl, hno, rfl⟩ := hrel
    by_cases hlt : k < m
    · have hkl : k < xs.length := by rw [Hl.out]; exact hlt
      obtain ⟨bz, oz, rfl, hcz⟩ := H.out.nums.at_ k hlt
      have hxb := H.out.xb _ (mem_at xs k hkl)
      have Hno := hid hno
      have hit := find_hit xs (fun x => hAt hs x == some 2) k hkl hno
      have mis := find_miss xs (fun x => hAt hs x == some 2) k hkl hno
      clear hno
      have hlk := H.out.mp.look (xs.getD k 0) (i64wf_of (by omega))
      generalize xs.getD k 0 = x at *
      by_cases h2 : hAt hs x = some 2
      · rw [h2] at hlk
        have hf : fOpen xs hs = some x := hit (by rw [h2]; rfl)
        have hlk' : (Instr.lookup 71 (.map (some g)) (.int .i64 x) false).run Try.prog wr = .ok (.int .u8 2) wr := hlk
        have Hf := hid hf
        clear hf hit mis hlk h2 hkl
        go_wp2
        go_ret2
        rw [Hf.out]
        exact ⟨rfl, rfl⟩
      · have hms := mis (by simpa using h2)
        have hne : ((((hAt hs x).getD 0 : Nat) : Int) == 2) = false := by
          cases hh : hAt hs x with
          | none => rfl
          | some u =>
            have : u ≠ 2 := fun e => h2 (by rw [hh, e])
            rw [beq_eq_false_iff_ne]
            show ((u : Nat) : Int) ≠ 2
            omega
        have Hms := hid hms
        generalize (((hAt hs x).getD 0 : Nat) : Int) = v at *
        clear hms hit mis h2 hkl
        go_wp2
        go_roundw
        case rel => exact ⟨k + 1, by omega, by go_num, Hms.out, (by first | rfl | trivial)⟩
        case measure => simp [intOf]; omega
    · obtain rfl : k = m := by omega
      have ht : xs.take k = xs := List.take_of_length_le (by rw [Hl.out]; exact Nat.le_refl _)
      rw [ht] at hno
      have Hno := hid hno
      clear hno ht
      go_wp2
      go_ret2
      rw [show fOpen xs hs = none from Hno.out]
      exact ⟨rfl, rfl⟩

def setH (xs : List Int) (hs : List (Option Nat)) (k h : Nat) : List (Option Nat) := (if h = 2 then (match fOpen xs hs with | some o => hs.set o.toNat (some 1) | none => hs) else hs).set k (some h)
theorem setH_len (xs : List Int) (hs : List (Option Nat)) (k h : Nat) : (setH xs hs k h).length = hs.length := by
  unfold setH
  split
  · split
    · rw [List.length_set, List.length_set]
    · rw [List.length_set]
  · rw [List.length_set]
theorem fOpen_mem (xs : List Int) (hs : List (Option Nat)) (x : Int) (h : fOpen xs hs = some x) : x ∈ xs ∧ hAt hs x = some 2 := by
  unfold fOpen at h
  refine ⟨List.mem_of_find?_eq_some h, ?_⟩
  have := List.find?_some h
  simpa using this

theorem set_arg (b g n : Nat) (A : Option Addr) (m c : Nat) (xs : List Int) (hs : List (Option Nat)) (k : Int) (v : Nat) (w : World) (h : PS w b g n A m c xs hs) (hk : i64wf k) (hv : v < 256) (hno : hAt hs k = none ∨ 3 < v) :
    Calls Try.prog 19 #[.pointer (some ⟨b, 0, none⟩), .int .i64 k, .int .u8 (v : Int)] w fun e w' => e = .returned (.int .i64 1) ∧ w' = w := by
  obtain ⟨c0, c1⟩ := h.cells
  have hl := h.mp.look_ok k hk
  clear h hk
  cases hh : hAt hs k with
  | none =>
    rw [hh] at hl
    clear hno
    go_enter Try.func19, Try.ntmps19
    go_wp2
    go_ret
    exact ⟨rfl, rfl⟩
  | some u =>
    rw [hh] at hl hno
    have hno : 3 < v := by
      rcases hno with h | h
      · cases h
      · exact h
    have hno' : (3 : Int) < (v : Int) := by omega
    go_enter Try.func19, Try.ntmps19
    go_wp2
    go_ret
    exact ⟨rfl, rfl⟩
theorem set_dead (b g n : Nat) (A : Option Addr) (m c : Nat) (xs : List Int) (hs : List (Option Nat)) (k : Int) (v : Nat) (w : World) (h : PS w b g n A m c xs hs) (hk : i64wf k) (hd : hAt hs k = some 3) (hv : v < 3) :
    Calls Try.prog 19 #[.pointer (some ⟨b, 0, none⟩), .int .i64 k, .int .u8 (v : Int)] w fun e w' => e = .returned (.int .i64 15) ∧ w' = w := by
  obtain ⟨c0, c1⟩ := h.cells
  have hl := h.mp.look_ok k hk
  rw [hd] at hl
  have hl' : (Instr.lookup 71 (.map (some g)) (.int .i64 k) true).run Try.prog w = .ok (.tuple #[.int .u8 3, .bool true]) w := hl
  have hv1 : (v : Int) ≠ 3 := by omega
  have hv2 : ¬ (3 : Int) < (v : Int) := by omega
  clear h hk hd hl hv
  go_enter Try.func19, Try.ntmps19
  go_wp2
  go_ret
  exact ⟨rfl, rfl⟩

set_option maxHeartbeats 2000000 in
theorem set_ok (b g n : Nat) (A : Option Addr) (m c : Nat) (xs : List Int) (hs : List (Option Nat)) (k u v : Nat) (w : World) (h : PS w b g n A m c xs hs) (hk : k < 64) (hu : hAt hs (k : Int) = some u) (hd : u = 3 → v = 3) (hv : v ≤ 3) (hn : n < 90000) :
    Calls Try.prog 19 #[.pointer (some ⟨b, 0, none⟩), .int .i64 (k : Int), .int .u8 (v : Int)] w fun e w' => e = .returned (.int .i64 0) ∧ (∃ n', n' ≤ n + 2 ∧ PS w' b g n' A m c xs (setH xs hs k v)) ∧ w.grownBy w' (some g) := by
  obtain ⟨c0, c1⟩ := h.cells
  have hl := h.mp.look_ok (k : Int) (i64wf_of (by omega))
  rw [hu] at hl
  have hl' : (Instr.lookup 71 (.map (some g)) (.int .i64 (k : Int)) true).run Try.prog w = .ok (.tuple #[.int .u8 (u : Int), .bool true]) w := hl
  clear hl
  have hv3 : ¬ (3 : Int) < (v : Int) := by omega
  by_cases h2 : v = 2
  · subst h2
    have hu3 : (u : Int) ≠ 3 := by omega
    have hop := open_any b g n A m c xs hs w h
    cases ho : fOpen xs hs with
    | none =>
      rw [ho] at hop
      have eH : setH xs hs k 2 = hs.set k (some 2) := by unfold setH; rw [ho]; rfl
      obtain ⟨w1, hrun, hm1, hg1⟩ := h.mp.put h.len (by omega) k 2 hk (by decide)
      have hp1 := h.grown hg1 hm1 (by rw [List.length_set]; exact h.len)
      rw [eH]
      have hrun' : (Instr.mapUpdate 71 (.map (some g)) (.int .i64 (k : Int)) (.int .u8 2)).run Try.prog w = .ok () w1 := hrun
      clear eH hm1 h ho hu hd hv hrun
      go_enter Try.func19, Try.ntmps19
      go_wp2_with fail
      refine hop.mono ?_
      rintro e w' ⟨rfl, rfl⟩
      clear hop
      go_wp2
      go_ret
      exact ⟨rfl, ⟨_, by omega, hp1⟩, hg1⟩
    | some o =>
      rw [ho] at hop
      obtain ⟨hom, hoh⟩ := fOpen_mem xs hs o ho
      have hob := h.xb o hom
      obtain ⟨o, rfl⟩ := Int.eq_ofNat_of_zero_le hob.1
      have ho64 : o < 64 := by omega
      have eH : setH xs hs k 2 = (hs.set o (some 1)).set k (some 2) := by unfold setH; rw [ho]; rfl
      obtain ⟨w1, hrun1, hm1, hg1⟩ := h.mp.put h.len (by omega) o 1 ho64 (by decide)
      have hp1 := h.grown hg1 hm1 (by rw [List.length_set]; exact h.len)
      obtain ⟨w2, hrun2, hm2, hg2⟩ := hp1.mp.put hp1.len (by omega) k 2 hk (by decide)
      have hp2 := hp1.grown hg2 hm2 (by rw [List.length_set]; exact hp1.len)
      have hg := hg1.andThen hg2 (fun j hj => Or.inr hj)
      obtain ⟨d0, d1⟩ := hp1.cells
      rw [eH]
      have hop' : Calls Try.prog 27 #[.pointer (some ⟨b, 0, none⟩)] w fun e w' => e = .returned (.tuple #[.int .i64 (o : Int), .bool true]) ∧ w' = w := hop
      have hrun1' : (Instr.mapUpdate 71 (.map (some g)) (.int .i64 (o : Int)) (.int .u8 1)).run Try.prog w = .ok () w1 := hrun1
      have hrun2' : (Instr.mapUpdate 71 (.map (some g)) (.int .i64 (k : Int)) (.int .u8 2)).run Try.prog w1 = .ok () w2 := hrun2
      clear eH hm1 hm2 h ho hu hd hv hp1 hg1 hg2 hom hoh hop hrun1 hrun2
      go_enter Try.func19, Try.ntmps19
      go_wp2_with fail
      refine hop'.mono ?_
      rintro e w' ⟨rfl, rfl⟩
      clear hop'
      go_wp2
      go_ret
      exact ⟨rfl, ⟨_, by omega, hp2⟩, hg⟩
  · have eH : setH xs hs k v = hs.set k (some v) := by unfold setH; rw [if_neg h2]
    obtain ⟨w1, hrun, hm1, hg1⟩ := h.mp.put h.len (by omega) k v hk (by omega)
    have hp1 := h.grown hg1 hm1 (by rw [List.length_set]; exact h.len)
    rw [eH]
    have hv2 : (v : Int) ≠ 2 := by omega
    have h2' : ((v : Int) == 2) = false := by rw [beq_eq_false_iff_ne]; exact hv2
    by_cases hu3 : u = 3
    · have hvv := hd hu3
      have hv3 : ((v : Int) == 3) = true := by rw [beq_iff_eq]; omega
      have hu3' : ((u : Int) == 3) = true := by rw [beq_iff_eq]; omega
      have hv4 : (v : Int) = 3 := by omega
      subst hu3
      subst hvv
      have hrun' : (Instr.mapUpdate 71 (.map (some g)) (.int .i64 (k : Int)) (.int .u8 3)).run Try.prog w = .ok () w1 := hrun
      have hl3 : (Instr.lookup 71 (.map (some g)) (.int .i64 (k : Int)) true).run Try.prog w = .ok (.tuple #[.int .u8 3, .bool true]) w := hl'
      show Calls _ _ #[.pointer (some ⟨b, 0, none⟩), .int .i64 (k : Int), .int .u8 3] _ _
      clear eH hm1 h hu hd hv hrun hl' hv2 h2' hv3 hu3' hv4 h2
      go_enter Try.func19, Try.ntmps19
      go_wp2
      go_ret
      exact ⟨rfl, ⟨_, by omega, hp1⟩, hg1⟩
    · have hu3' : (u : Int) ≠ 3 := by omega
      clear eH hm1 h hu hd hv
      go_enter Try.func19, Try.ntmps19
      go_wp2
      go_ret
      exact ⟨rfl, ⟨_, by omega, hp1⟩, hg1⟩
end Go.Proofs.Ytnlidokfmpfepaa.Pool
