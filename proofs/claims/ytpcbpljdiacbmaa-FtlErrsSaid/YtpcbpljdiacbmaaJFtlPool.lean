import Derived.Test.YtpcbpljdiacbmaaJPoolAll
set_option linter.unusedVariables false
set_option linter.unusedSimpArgs false
namespace Go.Proofs.Ytpcbpljdiacbmaa.Pool
open Go.RowKit Go.Proofs.Ytpcbpljdiacbmaa.Kit Go.Maps

theorem nodup_lt : ∀ (n : Nat) (l : List Nat), l.Nodup → (∀ x ∈ l, x < n) → l.length ≤ n := by
 intro n
 induction n with
 | zero =>
  intro l _ h
  cases l with
  | nil => exact Nat.le_refl _
  | cons x l => exact absurd (h x List.mem_cons_self) (by omega)
 | succ n ih =>
  intro l hn h
  by_cases hm : n ∈ l
  ·have h1 := ih (l.erase n) (hn.erase n) (fun x hx => by
    have h2 := (List.Nodup.mem_erase_iff hn).1 hx
    have := h x h2.2
    omega)
   rw [List.length_erase_of_mem hm] at h1
   omega
  ·have := ih l hn (fun x hx => by
    have := h x hx
    have : x ≠ n := fun e => hm (e ▸ hx)
    omega)
   omega
def litN : Lit → Nat
 | .int _ z => z.toNat
 | _ => 0
/-- A map of how blocks stand has 64 entries at most. -/
theorem Mp.norm {w : World} {g n : Nat} {hs : List (Option Nat)} (h : Mp w g n hs) : Mp w g 64 hs := by
 obtain ⟨D, ⟨es, clock, hb, F, hle, hD⟩, r⟩ := h
 refine ⟨D, ⟨es, clock, hb, F, ?_, hD⟩, r⟩
 have hkey : ∀ x ∈ es.toList, ∃ z : Int, (Go.WideElems.rg (H := Unit) Try.prog 3 (plainElem Try.prog 5) x).1 = .int .i64 z ∧ 0 ≤ z ∧ z < 64 := fun x hx => by
  obtain ⟨y, hy⟩ := F.reads x hx
  obtain ⟨z, e1, e2, hwz⟩ := keyOf_int_inv Try.underlying3 (Go.WideElems.rd_key hy)
  rw [Go.WideElems.rg_of hy]
  have hhas : Maps.has D y.1 = true := by
   rw [hD]
   exact List.any_eq_true.2 ⟨y, mem_sorted.2 (List.mem_map.2 ⟨x, hx, Go.WideElems.rg_of hy⟩), WideAt.sameKey_self (law3.key (Go.WideElems.rd_key hy))⟩
  rw [e2] at hhas
  refine ⟨z, e2, ?_⟩
  by_cases hz : 0 ≤ z ∧ z < 64
  ·exact hz
  ·have := (r z hwz).1 (hAt_out hs z hz)
   rw [this] at hhas
   cases hhas
 have hap := Maps.fit_apart law3 F
 have hnd : ((es.toList.map (Go.WideElems.rg (H := Unit) Try.prog 3 (plainElem Try.prog 5))).map (fun p => litN p.1)).Nodup := by
  unfold List.Nodup
  rw [List.pairwise_map]
  refine List.Pairwise.imp_of_mem ?_ hap
  intro p q hp hq hne
  obtain ⟨x, hx, rfl⟩ := List.mem_map.1 hp
  obtain ⟨y, hy, rfl⟩ := List.mem_map.1 hq
  obtain ⟨z1, e1, b1⟩ := hkey x hx
  obtain ⟨z2, e2, b2⟩ := hkey y hy
  rw [e1, e2] at hne ⊢
  show z1.toNat ≠ z2.toNat
  intro e
  exact hne (by rw [show z1 = z2 by omega])
 have := nodup_lt 64 _ hnd (fun k hk => by
  obtain ⟨p, hp, rfl⟩ := List.mem_map.1 hk
  obtain ⟨x, hx, rfl⟩ := List.mem_map.1 hp
  obtain ⟨z1, e1, b1⟩ := hkey x hx
  rw [e1]
  show z1.toNat < 64
  omega)
 simpa using this
theorem PS.norm {w : World} {b g n : Nat} {A : Option Addr} {m c : Nat} {xs : List Int} {hs : List (Option Nat)} (h : PS w b g n A m c xs hs) : PS w b g 64 A m c xs hs := ⟨h.blk, h.nums, h.mp.norm, h.len, h.xb, h.mc, h.mm⟩
/-- What Set does. -/
def poolSet (xs : List Int) (hs : List (Option Nat)) (k h : Nat) : List (Option Nat) :=
 match hAt hs (k : Int) with
 | none => hs
 | some u => if u = 3 ∧ h ≠ 3 then hs else setH xs hs k h
theorem poolSet_len (xs : List Int) (hs : List (Option Nat)) (k h : Nat) : (poolSet xs hs k h).length = hs.length := by
 unfold poolSet
 split
 ·rfl
 ·split
  ·rfl
  ·exact setH_len _ _ _ _
theorem pset_any (b g : Nat) (A : Option Addr) (m c : Nat) (xs : List Int) (hs : List (Option Nat)) (k v : Nat) (w : World) (h : PS w b g 64 A m c xs hs) (hk : k < 64) (hv : v ≤ 3) :
  Calls Try.prog 40 #[.pointer (some ⟨b, 0, none⟩), .int .i64 (k : Int), .int .u8 (v : Int)] w fun e w' => (∃ r, e = .returned (.int .i64 r)) ∧ PS w' b g 64 A m c xs (poolSet xs hs k v) ∧ w.grownBy w' (some g) := by
 cases hu : hAt hs (k : Int) with
 | none =>
  refine (set_arg b g 64 A m c xs hs (k : Int) v w h (i64wf_of (by omega)) (by omega) (.inl hu)).mono ?_
  rintro e w' ⟨he, rfl⟩
  refine ⟨⟨1, he⟩, ?_, World.grownBy.refl _ _⟩
  unfold poolSet
  rw [hu]
  exact h
 | some u =>
  by_cases hd : u = 3 ∧ v ≠ 3
  ·refine (set_dead b g 64 A m c xs hs (k : Int) v w h (i64wf_of (by omega)) (by rw [hu, hd.1]) (by omega)).mono ?_
   rintro e w' ⟨he, rfl⟩
   refine ⟨⟨15, he⟩, ?_, World.grownBy.refl _ _⟩
   unfold poolSet
   rw [hu]
   show PS w' b g 64 A m c xs (if u = 3 ∧ v ≠ 3 then hs else setH xs hs k v)
   rw [if_pos hd]
   exact h
  ·refine (set_ok b g 64 A m c xs hs k u v w h hk hu (by omega) hv (by omega)).mono ?_
   rintro e w' ⟨he, ⟨n', -, hp⟩, hg⟩
   refine ⟨⟨0, he⟩, ?_, hg⟩
   unfold poolSet
   rw [hu]
   show PS w' b g 64 A m c xs (if u = 3 ∧ v ≠ 3 then hs else setH xs hs k v)
   rw [if_neg hd]
   exact hp.norm
end Go.Proofs.Ytpcbpljdiacbmaa.Pool
