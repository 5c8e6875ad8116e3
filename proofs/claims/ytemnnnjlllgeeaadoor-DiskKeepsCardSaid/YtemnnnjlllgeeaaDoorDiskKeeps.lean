/- Proved: the law DiskKeeps returns true for all acts that fit: the walk. -/
import Derived.Test.YtemnnnjlllgeeaaDoorDiskY
import Derived.Test.YtemnnnjlllgeeaaDoorPDspx0
import Derived.Deep.RegionHeld3
import Derived.Deep.QuietTactic
import Derived.BigQuiet
namespace Go.Proofs.YtemnnnjlllgeeaaDoor.PDsp
open Go.RowKit Go.Proofs.YtemnnnjlllgeeaaDoorW.PrintWords Go.Proofs.YtemnnnjlllgeeaaDoorW.PrintLast Go.Proofs.YtemnnnjlllgeeaaDoorW.PrintMore Go.Proofs.YtemnnnjlllgeeaaDoor.Err Go.Proofs.YtemnnnjlllgeeaaDoor.PDsk Go.Maps
attribute [local go_sem] max2_int min2_int max_two min_two max_three min_three max_four min_four
set_option linter.unusedVariables false
set_option linter.unusedSimpArgs false

abbrev ActT := S32
theorem cell_keep {w W : World} {p : Addr} {v : Value} (hb : Below w.heap.size w W) (h : w.cell? p = some v) : W.cell? p = some v := by
  have hlt : p.block < w.heap.size := by
    by_cases h2 : p.block < w.heap.size
    · exact h2
    · simp [World.cell?, Array.getElem?_eq_none (Nat.le_of_not_lt h2)] at h
  have := hb.block p.block hlt
  simp only [World.cell?] at h ⊢
  rw [this]; exact h
def okAll (l : List ActT) : Prop := ∀ x ∈ l, okI x.f1
theorem rd_ok {l : List ActT} (h : okAll l) (i : Nat) (hi : i < l.length) : okI (rd_T32 l (i : Int)).f1 := by
  unfold rd_T32
  rw [Int.toNat_natCast, List.getD_eq_getElem?_getD, List.getElem?_eq_getElem hi]
  exact h _ (List.getElem_mem hi)
/-- What the law keeps of each block: the bytes, as a string; whether there are some. -/
def lastV (C : Int → Option (List Int)) : List Value := (List.range 16).map fun (j : Nat) => .string (strOfNums ((C (j : Int)).getD []))
def isV (C : Int → Option (List Int)) : List Value := (List.range 16).map fun (j : Nat) => .bool (C (j : Int)).isSome
theorem lastV_upd (C : Int → Option (List Int)) (k : Nat) (hk : k < 16) (xs : List Int) : (lastV C).toArray.setIfInBounds k (.string (strOfNums xs)) = (lastV (updC C (k : Int) xs)).toArray := by
  rw [List.setIfInBounds_toArray]
  congr 1
  apply List.ext_getElem
  · simp [lastV]
  · intro j h1 h2
    rw [List.getElem_set]
    have hj : j < 16 := by simpa [lastV] using h2
    simp only [lastV, List.getElem_map, List.getElem_range, updC]
    by_cases e : k = j
    · subst e; simp
    · rw [if_neg e, if_neg (by omega)]
theorem isV_upd (C : Int → Option (List Int)) (k : Nat) (hk : k < 16) (xs : List Int) : (isV C).toArray.setIfInBounds k (.bool true) = (isV (updC C (k : Int) xs)).toArray := by
  rw [List.setIfInBounds_toArray]
  congr 1
  apply List.ext_getElem
  · simp [isV]
  · intro j h1 h2
    rw [List.getElem_set]
    have hj : j < 16 := by simpa [isV] using h2
    simp only [isV, List.getElem_map, List.getElem_range, updC]
    by_cases e : k = j
    · subst e; simp
    · rw [if_neg e, if_neg (by omega)]
theorem lastV_get (C : Int → Option (List Int)) (k : Nat) (hk : k < 16) : (lastV C).toArray[k]? = some (.string (strOfNums ((C (k : Int)).getD []))) := by simp [lastV, hk]
theorem isV_get (C : Int → Option (List Int)) (k : Nat) (hk : k < 16) : (isV C).toArray[k]? = some (.bool (C (k : Int)).isSome) := by simp [isV, hk]
/-- The law's state: the disk, the two rows of 16. -/
structure Kp (w0 w : World) (d1 d2 Bl Bi n : Nat) (s : Dk) (C : Int → Option (List Int)) : Prop where
  fr : Fr (fun b => w0.heap.size ≤ b) w0 w
  dx : Dx w d1 d2 s n C
  room : s.room = 16
  hold : ∀ k xs, C k = some xs → (0 ≤ k ∧ k < 16) ∧ xs.length ≤ 64
  last : w.heap[Bl]? = some (.cells (lastV C).toArray 28 (0, 0))
  is : w.heap[Bi]? = some (.cells (isV C).toArray 29 (0, 0))
  ne : Bl ≠ d1 ∧ Bl ≠ d2 ∧ Bi ≠ d1 ∧ Bi ≠ d2 ∧ w0.heap.size ≤ d1 ∧ w0.heap.size ≤ d2 ∧ w0.heap.size ≤ Bl ∧ w0.heap.size ≤ Bi
theorem facts3 {W : World} {B : Nat} {t : TypeId} {v0 v1 v2 : Value} (h : W.heap[B]? = some (.cells #[v0, v1, v2] t (0, 0))) :
    W.cell? ⟨B, 0, none⟩ = some v0 ∧ W.cell? ⟨B, 1, none⟩ = some v1 ∧ W.cell? ⟨B, 2, none⟩ = some v2 := ⟨blk_cell h 0 _ rfl, blk_cell h 1 _ rfl, blk_cell h 2 _ rfl⟩
theorem noB_of_ne {w : World} {b : Nat} {cs : Array Value} {q : TypeId} (h : w.heap[b]? = some (.cells cs q (0, 0))) (hq : q ≠ 5) (hc : ∀ (o : Nat) x, cs[o]? ≠ some (.int .u8 x)) : NoB w b := by
  refine ⟨fun cells e => ?_, fun o s x e => ?_⟩
  · rw [h] at e; injection e with e; injection e with _ e; exact hq e
  · simp only [World.cell?, h] at e
    split at e
    · cases e
    · exact hc o x e
theorem Kp.next {w0 w w' : World} {d1 d2 Bl Bi n m : Nat} {s s' : Dk} {C : Int → Option (List Int)} (K : Kp w0 w d1 d2 Bl Bi n s C) (hf : Fr (fun b => b = d1 ∨ b = d2) w w') (hd : Dx w' d1 d2 s' m C) (hr : s'.room = s.room) : Kp w0 w' d1 d2 Bl Bi m s' C := by
  obtain ⟨n1, n2, n3, n4, n5, n6, n7, n8⟩ := K.ne
  exact ⟨K.fr.trans (hf.mono (fun b hb => by rcases hb with rfl | rfl; exact n5; exact n6)), hd, hr.trans K.room, K.hold, (hf.block Bl (Array.getElem?_eq_some_iff.1 K.last).1 (fun h => h.elim n1 n2)).trans K.last, (hf.block Bi (Array.getElem?_eq_some_iff.1 K.is).1 (fun h => h.elim n3 n4)).trans K.is, K.ne⟩
theorem Kp.below {w0 w w' : World} {d1 d2 Bl Bi n : Nat} {s : Dk} {C : Int → Option (List Int)} (K : Kp w0 w d1 d2 Bl Bi n s C) (hb : Below w.heap.size w w') : Kp w0 w' d1 d2 Bl Bi n s C := K.next ((Fr.of_below hb)) (K.dx.below hb) rfl
set_option maxHeartbeats 16000000 in
set_option maxRecDepth 100000 in
theorem diskKeeps_law (A0 : Option Addr) (c0 : Nat) (l0 : List ActT) (w : World) (hr0 : Kd.C k32 w A0 l0.length l0) (hc0 : l0.length ≤ c0) (hL : Laid w) (ok0 : okAll l0) :
    Calls Tryd.prog 3 #[.slice A0 l0.length c0] w fun e w' => e = .returned (.bool true) ∧ Below w.heap.size w w' := by
  have HL := Aside0.mk hL
  have R0 := Aside0.mk hr0
  have K0 := Aside0.mk ok0
  clear hL hr0 ok0
  go_enter Tryd.func3, Tryd.ntmps3
  go_wp2_with fail
  refine (new_dx 16 w (by decide) (by decide)).mono ?_
  rintro e w1 ⟨d1, d2, rfl, hD, hu, hb⟩
  have F1 : Aside0 (Fr (fun b => w.heap.size ≤ b) w w1) := ⟨Fr.of_below hb⟩
  have D1 := Aside0.mk hD
  have U1 := Aside0.mk hu
  clear hD hu hb
  have X1 := heap_alloc_new w1 (Obj.cells (lastV (fun _ => none)).toArray 28)
  have X2 := heap_alloc_new (w1.alloc (Obj.cells (lastV (fun _ => none)).toArray 28)) (Obj.cells (isV (fun _ => none)).toArray 29)
  have K1 : Aside0 (Kp w ((w1.alloc (Obj.cells (lastV (fun _ => none)).toArray 28)).alloc (Obj.cells (isV (fun _ => none)).toArray 29)) d1 d2 w1.heap.size (w1.heap.size + 1) 0 ⟨16, false, 0, 0, 0⟩ (fun _ => none)) := ⟨by
    have f := (Fr.alloc (fun _ => False) w1 (Obj.cells (lastV (fun _ => none)).toArray 28)).trans (Fr.alloc (fun _ => False) _ (Obj.cells (isV (fun _ => none)).toArray 29))
    have hlt := D1.out.lt
    have hsz := F1.out.size
    have u := U1.out
    have hs1 : (w1.alloc (Obj.cells (lastV (fun _ => none)).toArray 28)).heap.size = w1.heap.size + 1 := by simp
    exact ⟨F1.out.trans (f.mono (fun _ h => h.elim)), D1.out.kept0 f, rfl, fun _ _ h => (by cases h), (Below.heap_alloc _ _ _ (by rw [hs1]; omega)).trans X1, by rw [hs1] at X2; exact X2, by omega⟩⟩
  clear X1 X2
  have hw1 : w1.heap.size = w1.heap.size := rfl
  obtain ⟨Bl, hBl⟩ : ∃ Bl, w1.heap.size = Bl := ⟨_, rfl⟩
  rw [show (lastV (fun _ => none)).toArray = #[.string ⟨#[]⟩, .string ⟨#[]⟩, .string ⟨#[]⟩, .string ⟨#[]⟩, .string ⟨#[]⟩, .string ⟨#[]⟩, .string ⟨#[]⟩, .string ⟨#[]⟩, .string ⟨#[]⟩, .string ⟨#[]⟩, .string ⟨#[]⟩, .string ⟨#[]⟩, .string ⟨#[]⟩, .string ⟨#[]⟩, .string ⟨#[]⟩, .string ⟨#[]⟩] from by kernel_rfl, show (isV (fun _ => none)).toArray = #[.bool false, .bool false, .bool false, .bool false, .bool false, .bool false, .bool false, .bool false, .bool false, .bool false, .bool false, .bool false, .bool false, .bool false, .bool false, .bool false] from by kernel_rfl] at K1
  rw [hBl] at K1
  clear D1 F1
  go_wp2
  go_loopg [7, 8] 100 (fun kq v7 v8 wr => ∃ (i : Nat) (s : Dk) (C : Int → Option (List Int)), v7 = .int .i64 s.writes ∧ v8 = .int .i64 (i : Int) ∧ i ≤ 100 ∧ 100 - i ≤ kq ∧ Aside0 (Kp w wr d1 d2 Bl (Bl + 1) i s C))
  case atStart => exact ⟨0, _, _, rfl, rfl, by omega, by omega, K1⟩
  case round =>
    obtain ⟨i, s, C, rfl, rfl, hi, hk, K⟩ := hrel
    clear K1
    by_cases hlt : i < l0.length ∧ i < 100
    · have q1 : decide ((i : Int) < (l0.length : Int)) = true := decide_eq_true (by omega)
      have q2 : decide ((i : Int) < 100) = true := decide_eq_true (by omega)
      have ok0 := rd_ok K0.out i hlt.1
      obtain ⟨ad, A2, c2, e0, g0, g1, g2, gl, gC⟩ := at_T32 R0.out (i : Int) (by omega) (by omega)
      subst e0
      rw [Int.toNat_natCast] at g0 g1 g2
      obtain ⟨x, hx⟩ : ∃ x, rd_T32 l0 (i : Int) = x := ⟨_, rfl⟩
      rw [hx] at g0 g1 g2 gl gC ok0
      clear hx
      have hbw := K.out.fr.below (n := w.heap.size) (Nat.le_refl _) (fun _ h => h)
      have x0 := cell_keep hbw g0
      have x1 := cell_keep hbw g1
      have x2 := cell_keep hbw g2
      have GL := Aside0.mk gl
      have GC := Aside0.mk (Kd.C_below gC hbw)
      have GK := Aside0.mk ok0
      clear g0 g1 g2 gl gC ok0 hbw
      by_cases h0 : x.f0 = 0
      · obtain ⟨t, ht, htl⟩ : ∃ t, t = (x.f2.take 80).length ∧ t ≤ x.f2.length ∧ t ≤ 80 := ⟨_, rfl, by rw [List.length_take]; omega, by rw [List.length_take]; omega⟩
        have hgl := GL.out
        have hcut := cut_to (P := Tryd.prog) 30 5 .i64 Tryd.underlying30 (info_parts info8).choose_spec.1 A2 x.f2.length c2 (t : Int) (by omega) (by omega) hgl
        rw [Int.toNat_natCast] at hcut
        have hmn2 : min (x.f2.length : Int) 80 = (t : Int) := by rw [ht, List.length_take]; omega
        have hmn3 : (if (80 : Int) < (x.f2.length : Int) then (80 : Int) else (x.f2.length : Int)) = (t : Int) := by rw [ht, List.length_take]; split <;> omega
        have hmn4 : (if (x.f2.length : Int) < 80 then (x.f2.length : Int) else (80 : Int)) = (t : Int) := by rw [ht, List.length_take]; split <;> omega
        have ht' : t = (x.f2.take t).length := by rw [List.length_take]; omega
        have hC2 := Kd.C_take (m := t) GC.out (by omega)
        rw [← ht'] at hC2
        obtain ⟨sB, hsB⟩ : ∃ sB, strOfNums (x.f2.take t) = sB := ⟨_, rfl⟩
        have hsz : sB.size = t := by rw [← hsB, strOfNums_size]; omega
        have hcv := Kd.C_string (P := Tryd.prog) (c := c2) Tryd.underlying30 Tryd.underlying5 Tryd.underlying9 (Kd.C_below hC2 (below_alloc (Below.refl wr.heap.size wr) (Obj.cells #[.int .i64 0, .int .i64 x.f1, .slice A2 x.f2.length c2] 32)))
        rw [hsB] at hcv
        have kb := fun W => print_bytes (P := Tryd.prog) 9 30 5 Tryd.underlying9 Tryd.underlying30 Tryd.underlying5 sB W
        have X := Aside0.mk (heap_alloc_new wr (Obj.cells #[.int .i64 0, .int .i64 x.f1, .slice A2 x.f2.length c2] 32))
        obtain ⟨y0, y1, y2⟩ := facts3 X.out
        rw [h0] at x0
        have HT := Aside0.mk htl
        have HSZ := Aside0.mk hsz
        have HSB := Aside0.mk hsB
        have hmnS : (sB.size : Int) = (t : Int) := by rw [hsz]
        have HB : Aside0 (Below wr.heap.size wr (Lib.bytesWorld (wr.alloc (Obj.cells #[.int .i64 0, .int .i64 x.f1, .slice A2 x.f2.length c2] 32)) 5 sB)) := ⟨bytes_below (below_alloc (Below.refl _ _) _) (by simp) _ _⟩
        have HCB : Aside0 ((Kd.int .u8).C (Lib.bytesWorld (wr.alloc (Obj.cells #[.int .i64 0, .int .i64 x.f1, .slice A2 x.f2.length c2] 32)) 5 sB) (some ⟨wr.heap.size + 1, 0, none⟩) sB.size (bytesOf sB)) := ⟨by
          have hq := Kd.C_of_reads (d := (0 : Int)) (h1 := fun _ => rfl) (bytes_reads (wr.alloc (Obj.cells #[.int .i64 0, .int .i64 x.f1, .slice A2 x.f2.length c2] 32)) 5 sB (by omega))
          rw [World.size_alloc] at hq
          exact hq⟩
        have HX : Aside0 ((Lib.bytesWorld (wr.alloc (Obj.cells #[.int .i64 0, .int .i64 x.f1, .slice A2 x.f2.length c2] 32)) 5 sB).heap[wr.heap.size]? = some (.cells #[.int .i64 0, .int .i64 x.f1, .slice A2 x.f2.length c2] 32 (0, 0))) := ⟨(Lib.bytesWorld_at_old _ _ _ _ (by simp)).trans X.out⟩
        have HW := Aside0.mk (write_dx (K.out.dx.below HB.out) x.f1 _ (grownCap (wr.alloc (Obj.cells #[.int .i64 0, .int .i64 x.f1, .slice A2 x.f2.length c2] 32)) sB.size 0 5) sB.size (bytesOf sB) (by unfold maxLen; omega) GK.out (bytesOf_length sB) HCB.out (grownCap_ge _ _ _ _) (by omega))
        have hsm := HSZ.out
        rw [hmnS] at HW
        have hcs := wrS_cases s x.f1 (t : Int)
        obtain ⟨r, hr⟩ : ∃ r, wrS s x.f1 (t : Int) = r := ⟨_, rfl⟩
        rw [hr] at HW hcs
        clear hr hmnS hsm ht htl ht' hsz hsB hC2 hgl h0
        rcases hcs with ⟨e1, e2, e3, e4, e5, e6⟩ | ⟨⟨er, e1⟩, e2, e3, e4⟩
        · have E4 := Aside0.mk e4
          have E5 := Aside0.mk e5
          obtain ⟨k, hk0⟩ : ∃ k : Nat, x.f1 = (k : Int) := ⟨x.f1.toNat, by omega⟩
          have hr16 := K.out.room
          have hk1 : k < 16 := by omega
          have p1 : decide ((k : Int) < 0) = false := decide_eq_false (by omega)
          have p2 : decide ((15 : Int) < (k : Int)) = false := decide_eq_false (by omega)
          have p3 : decide ((64 : Int) < (sB.size : Int)) = false := decide_eq_false (by have := HSZ.out; omega)
          have T64 := Aside0.mk e3.2.2
          rw [e1, e2, if_pos rfl] at HW
          rw [hk0] at HW x1 y1 HX hcv HB
          clear e3 e4 e5 e6 hr16
          go_wp2_with fail
          refine HW.out.mono ?_
          rintro e w5 ⟨v, rfl, hE, hD, f5, hN⟩
          obtain rfl : v = .nilIface := hE
          have D5 := Aside0.mk hD
          have F5 := Aside0.mk f5
          have X5 : Aside0 (w5.heap[wr.heap.size]? = some (.cells #[.int .i64 0, .int .i64 (k : Int), .slice A2 x.f2.length c2] 32 (0, 0))) := ⟨(f5.block wr.heap.size (Array.getElem?_eq_some_iff.1 HX.out).1 (fun h => by have := K.out.dx.lt; rcases h with h | h <;> omega)).trans HX.out⟩
          have KB := Aside0.mk (K.out.below HB.out)
          have hl5 := (f5.block Bl (Array.getElem?_eq_some_iff.1 KB.out.last).1 (fun h => h.elim K.out.ne.1 K.out.ne.2.1)).trans KB.out.last
          have hi5 := (f5.block (Bl + 1) (Array.getElem?_eq_some_iff.1 KB.out.is).1 (fun h => h.elim K.out.ne.2.2.1 K.out.ne.2.2.2.1)).trans KB.out.is
          have L5 := Aside0.mk hl5
          have I5 := Aside0.mk hi5
          have m1 := Err.blk_cell hl5 k _ (lastV_get C k hk1)
          have m2 := Err.blk_cell hi5 k _ (isV_get C k hk1)
          have m3 := blk_frozen hl5 k
          have m4 := blk_frozen hi5 k
          have hBlt := (Array.getElem?_eq_some_iff.1 K.out.last).1
          have hBlt2 := (Array.getElem?_eq_some_iff.1 K.out.is).1
          have nb1 : ¬ wr.heap.size = Bl := by omega
          have nb2 : ¬ Bl = wr.heap.size := by omega
          have nb3 : ¬ wr.heap.size = Bl + 1 := by omega
          have nb4 : ¬ Bl + 1 = wr.heap.size := by omega
          obtain ⟨z0, z1, z2⟩ := facts3 X5.out
          clear hBlt hBlt2 hl5 hi5 hD f5 hN HW x0 x1 x2 y0 y1 y2 hcv kb hcut
          clear hmn2 hmn3 hmn4
          have KX := Aside0.mk hk0
          clear hk0
          go_wp2
          go_roundg (gk - 1)
          case measure => omega
          case rel =>
            refine ⟨i + 1, r.2.1, updC C (k : Int) (bytesOf sB), by rw [E4.out], by go_num, by omega, by omega, ⟨?_⟩⟩
            have n := K.out.ne
            have fz : Fr (fun b => b = Bl ∨ b = Bl + 1) w5 ((w5.setCell ⟨Bl, k, none⟩ (.string sB)).setCell ⟨Bl + 1, k, none⟩ (.bool true)) := ((Fr.refl _ w5).set_ (Or.inl rfl) _).set_ (Or.inr rfl) _
            have hs1 : strOfNums (bytesOf sB) = sB := strOf_bytesOf sB
            have e1 := Go.heap_setCell_same w5 Bl k _ _ (.string sB) L5.out
            rw [← hs1, lastV_upd C k hk1, hs1] at e1
            have i1 := (Below.heap_setCell w5 ⟨Bl, k, none⟩ (.string sB) (Bl + 1) (by show Bl + 1 ≠ Bl; omega)).trans I5.out
            have e2 := Go.heap_setCell_same _ (Bl + 1) k _ _ (.bool true) i1
            rw [isV_upd C k hk1 (bytesOf sB)] at e2
            have e3 := (Below.heap_setCell (w5.setCell ⟨Bl, k, none⟩ (.string sB)) ⟨Bl + 1, k, none⟩ (.bool true) Bl (by show Bl ≠ Bl + 1; omega)).trans e1
            refine ⟨KB.out.fr.trans ((F5.out.mono (fun b hb => by rcases hb with rfl | rfl; exact n.2.2.2.2.1; exact n.2.2.2.2.2.1)).trans (fz.mono (fun b hb => by rcases hb with rfl | rfl; exact n.2.2.2.2.2.2.1; exact n.2.2.2.2.2.2.2))), D5.out.kept fz (fun h => by omega) (fun h => by omega) ?_, E5.out.trans K.out.room, ?_, e3, e2, n⟩
            · rintro b (rfl | rfl)
              · exact noB_of_ne L5.out (by decide) (fun o x he => by
                  rw [List.getElem?_toArray] at he
                  simp only [lastV, List.getElem?_map] at he
                  cases h : (List.range 16)[o]? <;> rw [h] at he <;> cases he)
              · exact noB_of_ne I5.out (by decide) (fun o x he => by
                  rw [List.getElem?_toArray] at he
                  simp only [isV, List.getElem?_map] at he
                  cases h : (List.range 16)[o]? <;> rw [h] at he <;> cases he)
            · intro j xs hj
              by_cases hjk : j = (k : Int)
              · unfold updC at hj; rw [if_pos hjk] at hj
                have := Option.some.inj hj
                rw [← this, bytesOf_length]
                have := HSZ.out; have := T64.out
                omega
              · unfold updC at hj; rw [if_neg hjk] at hj; exact K.out.hold j xs hj
        · have E3 := Aside0.mk e3
          have E4 := Aside0.mk e4
          rw [e1, e2, if_neg (by decide)] at HW
          clear e3 e4
          go_wp2_with fail
          refine HW.out.mono ?_
          rintro e w5 ⟨v, rfl, hE, hD, f5, hN⟩
          obtain ⟨tt, uu, rfl⟩ := IsErr.ne_nil hE
          have K5 := Aside0.mk ((K.out.below HB.out).next f5 hD E4.out)
          clear hE hD f5 hN HW hcv kb hcut
          go_wp2
          go_roundg (gk - 1)
          case measure => omega
          case rel => exact ⟨i + 1, _, C, by rw [E3.out], by go_num, by omega, by omega, K5⟩
      · have k0 : (x.f0 == 0) = false := beq_eq_false_iff_ne.2 h0
        have X := Aside0.mk (heap_alloc_new wr (Obj.cells #[.int .i64 x.f0, .int .i64 x.f1, .slice A2 x.f2.length c2] 32))
        by_cases h2 : x.f0 = 2
        · rw [h2] at x0 X
          obtain ⟨y0, y1, y2⟩ := facts3 X.out
          clear k0 h0 h2
          go_wp2_with fail
          refine (arm_dx (K.out.dx.below (below_alloc (Below.refl _ _) _)) x.f1).mono ?_
          rintro e w5 ⟨rfl, hD, f5⟩
          have K5 := Aside0.mk ((K.out.below (below_alloc (Below.refl _ _) _)).next f5 hD (by unfold armS; split <;> rfl))
          clear hD f5
          go_wp2
          go_roundg (gk - 1)
          case measure => omega
          case rel => exact ⟨i + 1, _, C, by rw [show (armS s x.f1).writes = s.writes from by unfold armS; split <;> rfl], by go_num, by omega, by omega, ⟨{ K5.out with dx := K5.out.dx.more (Nat.le_succ i) }⟩⟩

        · have k2 : (x.f0 == 2) = false := beq_eq_false_iff_ne.2 h2
          by_cases h3 : x.f0 = 3
          · rw [h3] at x0 X
            obtain ⟨y0, y1, y2⟩ := facts3 X.out
            clear k0 k2 h0 h2 h3
            go_wp2_with fail
            refine (cut_dx (K.out.dx.below (below_alloc (Below.refl _ _) _))).mono ?_
            rintro e w5 ⟨rfl, hD, f5⟩
            have K5 := Aside0.mk ((K.out.below (below_alloc (Below.refl _ _) _)).next f5 hD rfl)
            clear hD f5
            go_wp2
            go_roundg (gk - 1)
            case measure => omega
            case rel => exact ⟨i + 1, cutS s, C, rfl, by go_num, by omega, by omega, ⟨{ K5.out with dx := K5.out.dx.more (Nat.le_succ i) }⟩⟩

          · have k3 : (x.f0 == 3) = false := beq_eq_false_iff_ne.2 h3
            obtain ⟨y0, y1, y2⟩ := facts3 X.out
            clear h0 h2 h3
            go_wp2_with fail
            refine (restart_dx (K.out.dx.below (below_alloc (Below.refl _ _) _))).mono ?_
            rintro e w5 ⟨rfl, hD, f5⟩
            have K5 := Aside0.mk ((K.out.below (below_alloc (Below.refl _ _) _)).next f5 hD rfl)
            clear hD f5
            go_wp2
            go_roundg (gk - 1)
            case measure => omega
            case rel => exact ⟨i + 1, restartS s, C, rfl, by go_num, by omega, by omega, ⟨{ K5.out with dx := K5.out.dx.more (Nat.le_succ i) }⟩⟩

    · have KF := Aside0.mk K
      by_cases h1 : i < l0.length
      · have q1 : decide ((i : Int) < (l0.length : Int)) = true := decide_eq_true (by omega)
        have q2 : decide ((i : Int) < 100) = false := decide_eq_false (by omega)
        go_wp2_with fail
        refine (restart_dx K.out.dx).mono ?_
        rintro e w5 ⟨rfl, hD, f5⟩
        have K5 : Aside0 (Kp w w5 d1 d2 Bl (Bl + 1) i (restartS s) C) := ⟨K.out.next f5 hD rfl⟩
        clear hD f5 KF
        obtain ⟨wn, hwn⟩ : ∃ wn, s.writes = wn := ⟨_, rfl⟩
        have HWN := Aside0.mk (show (restartS s).writes = wn from hwn)
        rw [hwn]
        obtain ⟨sr, hsr⟩ : ∃ sr, restartS s = sr := ⟨_, rfl⟩
        have HDN := Aside0.mk (show sr.down = false from by rw [← hsr]; rfl)
        rw [hsr] at K5 HWN
        clear hwn hsr K
        go_wp2
        go_loopg [11] 16 (fun kq v11 wr => ∃ (jj : Nat), v11 = .int .i64 (jj : Int) ∧ jj ≤ 16 ∧ 16 - jj ≤ kq ∧ Aside0 (Kp w wr d1 d2 Bl (Bl + 1) i sr C))
        case atStart => exact ⟨0, rfl, by omega, by omega, K5⟩
        case round =>
          obtain ⟨j, rfl, hj, hk2, K⟩ := hrel
          clear K5
          by_cases hlt2 : j < 16
          · have q3 : decide ((j : Int) < 16) = true := decide_eq_true (by omega)
            go_wp2_with fail
            refine (read_dx K.out.dx (j : Int) (by unfold okI; omega) (fun xs hx => by have := (K.out.hold _ _ hx).2; omega)).mono ?_
            have hm : met sr (j : Int) 0 = 2 := by
              have := K.out.room
              unfold met
              rw [HDN.out, if_neg (by decide), if_neg (by omega)]
            rw [show rdS sr C (j : Int) = ((C (j : Int)).getD [], (C (j : Int)).isSome, none) from by unfold rdS; rw [if_neg (by rw [hm]; decide)]]
            rintro e w6 ⟨v, ev, rfl, hR, hE, hb, hN⟩
            obtain rfl : ev = .nilIface := hE
            have K6 := Aside0.mk (K.out.below hb)
            have R6 := Aside0.mk hR
            obtain ⟨A6, c6, rfl⟩ := Kd.R_slice hR
            clear hR hb hN hm
            have m1 := Err.blk_cell K6.out.last j _ (lastV_get C j hlt2)
            have m2 := Err.blk_cell K6.out.is j _ (isV_get C j hlt2)
            have hcv := fun n => Kd.C_string (P := Tryd.prog) (c := c6) Tryd.underlying30 Tryd.underlying5 Tryd.underlying9 (show (Kd.int .u8).C (w6.drewN n) A6 _ _ from (Kd.R_reads' R6.out).2.2)
            obtain ⟨ys, hys⟩ : ∃ ys, (C (j : Int)).getD [] = ys := ⟨_, rfl⟩
            obtain ⟨bb, hbb⟩ : ∃ bb, (C (j : Int)).isSome = bb := ⟨_, rfl⟩
            obtain ⟨sy, hsy⟩ : ∃ sy, strOfNums ys = sy := ⟨_, rfl⟩
            rw [hys] at hcv m1 ⊢
            rw [hbb] at m2 ⊢
            rw [hsy] at hcv m1
            clear hys hbb hsy
            have p0 : (0 : Int) ≤ (j : Int) := by omega
            have p1 : (j : Int) < 16 := by omega
            have b1 : (bb != bb) = false := by cases bb <;> rfl
            go_wp2_with fail
            go_quiet (fail)
            go_wp2
            go_roundg (gk - 1)
            case measure => omega
            case rel => exact ⟨j + 1, by go_num, by omega, by omega, ⟨K6.out.below (pw_below_drewN (Below.refl _ _) _)⟩⟩
          · have q3 : decide ((j : Int) < 16) = false := decide_eq_false (by omega)
            go_wp2_with (first
              | (go_at_call 19; refine (told_law wr (HL.out.below (K.out.fr.below (Nat.le_refl _) (fun _ h => h)) (Nat.le_refl _))).mono ?_; rintro e w10 ⟨rfl, hb⟩; have K6 := Aside0.mk (K.out.below hb); clear hb)
              | (go_at_call 20; refine (writes_dx K6.out.dx).mono ?_; rintro e w11 ⟨rfl, rfl⟩; rw [HWN.out]))
            go_ret
            exact ⟨rfl, K6.out.fr.below (Nat.le_refl _) (fun _ h => h)⟩

      · have q1 : decide ((i : Int) < (l0.length : Int)) = false := decide_eq_false (by omega)
        go_wp2_with fail
        refine (restart_dx K.out.dx).mono ?_
        rintro e w5 ⟨rfl, hD, f5⟩
        have K5 : Aside0 (Kp w w5 d1 d2 Bl (Bl + 1) i (restartS s) C) := ⟨K.out.next f5 hD rfl⟩
        clear hD f5 KF
        obtain ⟨wn, hwn⟩ : ∃ wn, s.writes = wn := ⟨_, rfl⟩
        have HWN := Aside0.mk (show (restartS s).writes = wn from hwn)
        rw [hwn]
        obtain ⟨sr, hsr⟩ : ∃ sr, restartS s = sr := ⟨_, rfl⟩
        have HDN := Aside0.mk (show sr.down = false from by rw [← hsr]; rfl)
        rw [hsr] at K5 HWN
        clear hwn hsr K
        go_wp2
        go_loopg [11] 16 (fun kq v11 wr => ∃ (jj : Nat), v11 = .int .i64 (jj : Int) ∧ jj ≤ 16 ∧ 16 - jj ≤ kq ∧ Aside0 (Kp w wr d1 d2 Bl (Bl + 1) i sr C))
        case atStart => exact ⟨0, rfl, by omega, by omega, K5⟩
        case round =>
          obtain ⟨j, rfl, hj, hk2, K⟩ := hrel
          clear K5
          by_cases hlt2 : j < 16
          · have q3 : decide ((j : Int) < 16) = true := decide_eq_true (by omega)
            go_wp2_with fail
            refine (read_dx K.out.dx (j : Int) (by unfold okI; omega) (fun xs hx => by have := (K.out.hold _ _ hx).2; omega)).mono ?_
            have hm : met sr (j : Int) 0 = 2 := by
              have := K.out.room
              unfold met
              rw [HDN.out, if_neg (by decide), if_neg (by omega)]
            rw [show rdS sr C (j : Int) = ((C (j : Int)).getD [], (C (j : Int)).isSome, none) from by unfold rdS; rw [if_neg (by rw [hm]; decide)]]
            rintro e w6 ⟨v, ev, rfl, hR, hE, hb, hN⟩
            obtain rfl : ev = .nilIface := hE
            have K6 := Aside0.mk (K.out.below hb)
            have R6 := Aside0.mk hR
            obtain ⟨A6, c6, rfl⟩ := Kd.R_slice hR
            clear hR hb hN hm
            have m1 := Err.blk_cell K6.out.last j _ (lastV_get C j hlt2)
            have m2 := Err.blk_cell K6.out.is j _ (isV_get C j hlt2)
            have hcv := fun n => Kd.C_string (P := Tryd.prog) (c := c6) Tryd.underlying30 Tryd.underlying5 Tryd.underlying9 (show (Kd.int .u8).C (w6.drewN n) A6 _ _ from (Kd.R_reads' R6.out).2.2)
            obtain ⟨ys, hys⟩ : ∃ ys, (C (j : Int)).getD [] = ys := ⟨_, rfl⟩
            obtain ⟨bb, hbb⟩ : ∃ bb, (C (j : Int)).isSome = bb := ⟨_, rfl⟩
            obtain ⟨sy, hsy⟩ : ∃ sy, strOfNums ys = sy := ⟨_, rfl⟩
            rw [hys] at hcv m1 ⊢
            rw [hbb] at m2 ⊢
            rw [hsy] at hcv m1
            clear hys hbb hsy
            have p0 : (0 : Int) ≤ (j : Int) := by omega
            have p1 : (j : Int) < 16 := by omega
            have b1 : (bb != bb) = false := by cases bb <;> rfl
            go_wp2_with fail
            go_quiet (fail)
            go_wp2
            go_roundg (gk - 1)
            case measure => omega
            case rel => exact ⟨j + 1, by go_num, by omega, by omega, ⟨K6.out.below (pw_below_drewN (Below.refl _ _) _)⟩⟩
          · have q3 : decide ((j : Int) < 16) = false := decide_eq_false (by omega)
            go_wp2_with (first
              | (go_at_call 19; refine (told_law wr (HL.out.below (K.out.fr.below (Nat.le_refl _) (fun _ h => h)) (Nat.le_refl _))).mono ?_; rintro e w10 ⟨rfl, hb⟩; have K6 := Aside0.mk (K.out.below hb); clear hb)
              | (go_at_call 20; refine (writes_dx K6.out.dx).mono ?_; rintro e w11 ⟨rfl, rfl⟩; rw [HWN.out]))
            go_ret
            exact ⟨rfl, K6.out.fr.below (Nat.le_refl _) (fun _ h => h)⟩

open Classical in
noncomputable def tributarylaw7_DiskKeeps.f (l0 : List ActT) : Option Bool := if okAll l0 then some true else none
theorem tributarylaw7_DiskKeeps.calls (A0 : Option Addr) (c0 : Nat) (l0 : List ActT) (r : Bool) (w : World) (hr0 : Kd.C k32 w A0 l0.length l0) (hc0 : l0.length ≤ c0) (hL : Laid w) (h : tributarylaw7_DiskKeeps.f l0 = some r) :
    Calls Tryd.prog 3 #[.slice A0 l0.length c0] w fun e w' => e = .returned (.bool r) ∧ Below w.heap.size w w' := by
  unfold tributarylaw7_DiskKeeps.f at h
  by_cases hk : okAll l0
  · rw [if_pos hk] at h
    obtain rfl := Option.some.inj h
    exact diskKeeps_law A0 c0 l0 w hr0 hc0 hL hk
  · rw [if_neg hk] at h; cases h
end Go.Proofs.YtemnnnjlllgeeaaDoor.PDsp
