/- Proved: the contract of the document's own Append: what becomes of the blocks is what 'appS' says, as with the program's; condition: a record of at most 100000 bytes. -/
import Derived.Test.YtlhjjjpldmekdaaDoorLogR2
namespace Go.Proofs.YtlhjjjpldmekdaaDoor.PDsk.K
open Go.RowKit Go.Proofs.YtlhjjjpldmekdaaDoorW.PrintWords Go.Proofs.YtlhjjjpldmekdaaDoorW.PrintLast Go.Proofs.YtlhjjjpldmekdaaDoorW.PrintMore Go.Proofs.YtlhjjjpldmekdaaDoor.Err Go.Maps Go.Proofs.YtlhjjjpldmekdaaDoor.PLog
open Go.Proofs.YtlhjjjpldmekdaaDoor.PFn (tributaryref8_Blocks.calls tributaryref8_Block.calls ref8_Blocks_f ref8_Block_f)
attribute [local go_sem] max2_int min2_int max_two min_two max_three min_three max_four min_four
set_option linter.unusedVariables false
set_option linter.unusedSimpArgs false

theorem wrS_codes {s : Dk} {a n : Int} {x : Er} (h : (wrS s a n).1 = some x) : codeOf (some x) = 1 ∨ codeOf (some x) = 70 := by
  have hE : ∀ m x, refE m a = some x → codeOf (some x) = 1 ∨ codeOf (some x) = 70 := by
    intro m x h
    unfold refE at h
    split at h
    · obtain rfl := Option.some.inj h; exact Or.inl rfl
    · split at h
      · obtain rfl := Option.some.inj h; exact Or.inr rfl
      · cases h
  unfold wrS at h
  split at h
  · exact hE _ _ h
  · split at h
    · split at h
      · obtain rfl := Option.some.inj h; exact Or.inr rfl
      · cases h
    · cases h
/-- What Append leaves. -/
def App8P (r : Option Er × Dk × CT) (F : Nat → Prop) (Bl B0 B1 B2 nb recs next : Nat) (life : Int) (w : World) (e : Ending) (w' : World) : Prop :=
  e = .returned (.int .i64 (codeOf r.1)) ∧ RD w' F B0 B1 B2 r.2.1 r.2.2 ∧ (∃ recs' next' : Nat, (r.1 = none → recs' = recs + 1 ∧ next' = next + nb) ∧ ((∃ x, r.1 = some x) → recs' = recs ∧ next' = next) ∧ Lr w' Bl B0 (next' : Int) (recs' : Int) life) ∧ Fr (fun b => b = Bl ∨ RB B0 B1 B2 b) w w'
theorem App8P.no {s' : Dk} {C' : CT} {F : Nat → Prop} {Bl B0 B1 B2 nb recs next : Nat} {life : Int} {w w' : World} {x : Er} {q : Int} (hq : q = codeOf (some x)) (hd : RD w' F B0 B1 B2 s' C') (hl : Lr w' Bl B0 next recs life) (hf : Fr (RB B0 B1 B2) w w') : App8P (some x, s', C') F Bl B0 B1 B2 nb recs next life w (.returned (.int .i64 q)) w' :=
  ⟨by rw [hq], hd, ⟨recs, next, (fun h => by cases h), fun _ => ⟨rfl, rfl⟩, hl⟩, hf.mono (fun _ h => Or.inr h)⟩
set_option maxHeartbeats 16000000 in
set_option maxRecDepth 100000 in
theorem append8_calls (F : Nat → Prop) (Bl B0 B1 B2 R recs next : Nat) (life : Int) (s : Dk) (C : CT) (A : Option Addr) (c : Nat) (b : List Int) (w : World) (hd : RD w F B0 B1 B2 s C) (hl : Lr w Bl B0 next recs life) (hR : s.room = (R : Int)) (hR1 : R ≤ 65536 ∧ next ≤ 65536 ∧ recs ≤ 65536) (hF : ∀ k, w.heap.size ≤ k → F k) (hC : (Kd.int .u8).C w A b.length b) (hc : b.length ≤ c) (hb : b.length ≤ 100000) :
    Calls Tryd.prog 37 #[.pointer (some ⟨Bl, 0, none⟩), .slice A b.length c] w (App8P (appS s C life recs next b) F Bl B0 B1 B2 (nB b.length) recs next life w) := by
  have HD := Aside0.mk hd
  have HLX := Aside0.mk hl
  have HF := Aside0.mk hF
  have HC := Aside0.mk hC
  have hap := hl.apart hd
  have HAP := Aside0.mk hap
  have QG := Aside0.mk (dead8 hl hd)
  obtain ⟨nn, vs, hr⟩ := hd
  obtain rfl : nn = R := by have := hr.room; omega
  have HRX := Aside0.mk hr
  have HR := Aside0.mk hR
  clear hl hR hF hC hr hap
  cases hg : goneB s life with
  | true =>
    rw [hg] at QG
    have e : appS s C life recs next b = (some (.num 70), s, C) := by unfold appS; rw [if_pos hg]
    rw [e]
    clear hg e
    go_enter Tryd.func37, Tryd.ntmps37
    go_wp2_with (first
      | (go_at_call 82; refine QG.out.mono ?_; rintro e w1 ⟨rfl, hb⟩; have B1' := Aside0.mk hb; clear hb))
    go_ret
    exact App8P.no rfl (HD.out.below B1'.out) (HLX.out.below B1'.out) (Fr.of_below B1'.out)
  | false =>
    rw [hg] at QG
    obtain ⟨nb, hnb⟩ : ∃ nb, nB b.length = nb := ⟨_, rfl⟩
    have hnb1 : 1 ≤ nb ∧ nb ≤ 100000 := by rw [← hnb]; unfold nB; omega
    have QB := Aside0.mk (fun w => tributaryref8_Blocks.calls (b.length : Int) (nb : Int) w (by rw [ref8_Blocks_f _ (by omega), hnb]))
    have HNBE := Aside0.mk hnb
    have hs0 : IntKind.i64.wrap ((nn : Int) - (next : Int)) = (nn : Int) - (next : Int) := IntWalk.i64_in _ (by omega)
    by_cases hfull : s.room - (next : Int) < (nb : Int)
    · have e : appS s C life recs next b = (some (.num 71), s, C) := by unfold appS; rw [if_neg (by rw [hg]; decide), if_pos (by rw [hnb]; exact hfull)]
      rw [e, hnb]
      rw [HR.out] at hfull
      have q1 : decide ((nn : Int) - (next : Int) < (nb : Int)) = true := decide_eq_true hfull
      clear hg e hnb hfull
      go_enter Tryd.func37, Tryd.ntmps37
      go_wp2_with (first
        | (go_at_call 82; refine QG.out.mono ?_; rintro e w1 ⟨rfl, hb⟩; have B1' := Aside0.mk hb; clear hb)
        | (go_at_call 83; refine (QB.out _).mono ?_; rintro e w2 ⟨rfl, hb⟩; have B2' := Aside0.mk (B1'.out.trans (hb.mono B1'.out.size)); obtain ⟨k0, k1, k2, k3⟩ := facts4 (HLX.out.below B2'.out); obtain ⟨j0, j1, j2, j3, j4, j5⟩ := facts6 ((B2'.out.block B0 HRX.out.lt.1).trans HRX.out.b0); clear hb))
      go_quiet (fail)
      go_wp2
      go_ret
      have B3' := pw_below_drewN B2'.out nq
      exact App8P.no rfl (HD.out.below B3') (HLX.out.below B3') (Fr.of_below B3')
    · have e : appS s C life recs next b = appGo ((recs + 1 : Nat) : Int) next b nb 0 s C := by unfold appS; rw [if_neg (by rw [hg]; decide), if_neg (by rw [hnb]; exact hfull), hnb]
      rw [e, hnb]
      rw [HR.out] at hfull
      have q1 : decide ((nn : Int) - (next : Int) < (nb : Int)) = false := decide_eq_false hfull
      obtain ⟨res, hres⟩ : ∃ res, appGo ((recs + 1 : Nat) : Int) next b nb 0 s C = res := ⟨_, rfl⟩
      rw [hres]
      have HRES := Aside0.mk hres
      clear hg e hnb hfull hres
      go_enter Tryd.func37, Tryd.ntmps37
      go_wp2_with (first
        | (go_at_call 82; refine QG.out.mono ?_; rintro e w1 ⟨rfl, hb⟩; have B1' := Aside0.mk hb; clear hb)
        | (go_at_call 83; refine (QB.out _).mono ?_; rintro e w2 ⟨rfl, hb⟩; have B2' := Aside0.mk (B1'.out.trans (hb.mono B1'.out.size)); obtain ⟨k0, k1, k2, k3⟩ := facts4 (HLX.out.below B2'.out); obtain ⟨j0, j1, j2, j3, j4, j5⟩ := facts6 ((B2'.out.block B0 HRX.out.lt.1).trans HRX.out.b0); clear hb))
      go_quiet (fail)
      have B3' := Aside0.mk (pw_below_drewN B2'.out nq)
      go_wp2
      have I0 : Aside0 (Fr (RB B0 B1 B2) w (w2.drewN nq) ∧ RD (w2.drewN nq) F B0 B1 B2 s C ∧ appGo ((recs + 1 : Nat) : Int) next b (nb - 0) 0 s C = res) := ⟨Fr.of_below B3'.out, HD.out.below B3'.out, HRES.out⟩
      clear B1' B2' B3' QG HRES k0 k1 k2 k3 j0 j1 j2 j3 j4 j5 hs0
      go_loopg [6] (nb + 1) (fun kq v6 wr => ∃ (k : Nat) (s' : Dk) (C' : CT), v6 = .int .i64 (k : Int) ∧ k ≤ nb ∧ nb - k ≤ kq ∧ Aside0 (Fr (RB B0 B1 B2) w wr ∧ RD wr F B0 B1 B2 s' C' ∧ appGo ((recs + 1 : Nat) : Int) next b (nb - k) k s' C' = res))
      case atStart => exact ⟨0, s, C, rfl, by omega, by omega, I0⟩
      case round =>
        obtain ⟨k, s', C', rfl, hk, hkq, K⟩ := hrel
        clear I0
        by_cases hlt : k < nb
        · have q2 : decide ((k : Int) < (nb : Int)) = true := decide_eq_true (by omega)
          have HBN : Aside0 ((blkL ((recs + 1 : Nat) : Int) b k).length ≤ 86) := ⟨blkL_len _ _ _⟩
          have CX := Aside0.mk (C_fr HC.out K.out.1 (fun b hb => HRX.out.noB b hb))
          have hs1 : IntKind.i64.wrap ((recs : Int) + 1) = ((recs + 1 : Nat) : Int) := (IntWalk.i64_in _ (by omega)).trans (by omega)
          have hs2 : IntKind.i64.wrap ((next : Int) + (k : Int)) = ((next + k : Nat) : Int) := (IntWalk.i64_in _ (by omega)).trans (by omega)
          have hbf := ref8_Block_f ((recs + 1 : Nat) : Int) b k 12 (by unfold Go.Proofs.YtlhjjjpldmekdaaDoor.PFn.okI; omega) (by omega) (by rw [HNBE.out]; exact hlt) (by decide)
          have HRES := Aside0.mk K.out.2.2
          rw [show nb - k = (nb - (k + 1)) + 1 from by omega, appGo_succ] at HRES
          obtain ⟨bl, hbl⟩ : ∃ x, blkL ((recs + 1 : Nat) : Int) b k = x := ⟨_, rfl⟩
          rw [hbl] at HRES HBN hbf
          have QK := Aside0.mk (fun W (hCW : (Kd.int .u8).C W A b.length b) => tributaryref8_Block.calls 12 ((recs + 1 : Nat) : Int) (k : Int) A c b bl W hCW hc hbf)
          have HWE := Aside0.mk (fun x => wrS_codes (s := s') (a := ((next + k : Nat) : Int)) (n := (bl.length : Int)) (x := x))
          have HW := Aside0.mk (fun (W : World) (hbW : Below wr.heap.size wr W) (A6 : Option Addr) (c6 : Nat) (h6 : (Kd.int .u8).C W A6 bl.length bl) (hc6 : bl.length ≤ c6) => rwrite (K.out.2.1.below hbW) ((next + k : Nat) : Int) A6 c6 bl.length bl rfl h6 hc6 (by have := HBN.out; omega) (fun q hq => HF.out q (Nat.le_trans K.out.1.size (Nat.le_trans hbW.size hq))))
          obtain ⟨⟨e0, s2, kp⟩, hr⟩ : ∃ r, wrS s' ((next + k : Nat) : Int) (bl.length : Int) = r := ⟨_, rfl⟩
          rw [hr] at HW HRES HWE
          simp only at HW HRES HWE
          have L3 := Aside0.mk (HLX.out.kept K.out.1 HAP.out)
          obtain ⟨x0, x1, x2, x3⟩ := facts4 L3.out
          have K1 := Aside0.mk K.out.1
          have HD2 := Aside0.mk K.out.2.1
          clear hbl hr hbf K
          obtain ⟨ec, hec⟩ : ∃ ec, codeOf e0 = ec := ⟨_, rfl⟩
          rw [hec] at HW
          go_wp2_with fail
          go_region_held3 (fun W => W.cell? ⟨Bl, 0, none⟩ = some (.pointer (some ⟨B0, 0, none⟩)) ∧ W.cell? ⟨Bl, 1, none⟩ = some (.int .i64 (next : Int)) ∧ W.cell? ⟨Bl, 2, none⟩ = some (.int .i64 (recs : Int))) (first | exact ⟨x0, x1, x2⟩ | exact ⟨y0, y1, y2⟩ | exact ⟨z0, z1, z2⟩) (first
            | (go_at_call 84; refine (QK.out _ (Kd.C_drew CX.out)).mono ?_; rintro e w5 ⟨v5, rfl, hR5, hb5⟩; have B5 := Aside0.mk (below_step (below_drew (Below.refl _ _)) hb5); obtain ⟨A5, c5, rfl⟩ := Kd.R_slice hR5; have R5 := Aside0.mk (Kd.R_reads' hR5).2; obtain ⟨y0, y1, y2, y3⟩ := facts4 (L3.out.below B5.out); clear hR5 hb5)
            | (go_at_call 19; refine (HW.out w5 B5.out A5 c5 R5.out.2 R5.out.1).mono ?_; rintro e w7 ⟨rfl, hD7, hF7⟩; have D7 := Aside0.mk hD7; have F7 := Aside0.mk (K1.out.trans ((Fr.of_below B5.out).trans hF7)); obtain ⟨z0, z1, z2, z3⟩ := facts4 (L3.out.kept ((Fr.of_below B5.out).trans hF7) (L3.out.apart HD2.out)); clear hD7 hF7))
          clear x0 x1 x2 x3 y0 y1 y2 y3 z0 z1 z2 z3 hs1 hs2 HW QK
          cases e0 with
          | none =>
            obtain rfl : ec = 0 := hec.symm
            clear hec
            go_wp2
            go_roundg (gk - 1)
            case measure => omega
            case rel => exact ⟨k + 1, s2, _, by go_num, by omega, by omega, ⟨F7.out, D7.out, HRES.out⟩⟩
          | some x =>
            have hcx := HWE.out x rfl
            rw [hec] at hcx
            have HEC := Aside0.mk hec
            have L7 := Aside0.mk (HLX.out.kept F7.out HAP.out)
            clear hec
            rcases hcx with rfl | rfl
            · go_wp2
              go_ret
              rw [← HRES.out]
              exact App8P.no HEC.out.symm D7.out L7.out F7.out
            · go_wp2
              go_ret
              rw [← HRES.out]
              exact App8P.no HEC.out.symm D7.out L7.out F7.out
        · obtain rfl : k = nb := by omega
          have q2 : decide ((k : Int) < (k : Int)) = false := decide_eq_false (by omega)
          have L3 := Aside0.mk (HLX.out.kept K.out.1 HAP.out)
          obtain ⟨k0, k1, k2, k3⟩ := facts4 L3.out
          have z1 := blk_frozen L3.out 1
          have z2 := blk_frozen L3.out 2
          have HREC : Aside0 (res = (none, s', C')) := ⟨by rw [← K.out.2.2, Nat.sub_self]; rfl⟩
          have K1 := Aside0.mk K.out.1
          have K2 := Aside0.mk K.out.2.1
          have k2' := (facts4 (L3.out.set_next ((next : Int) + (k : Int)))).2.2.1
          clear K
          go_wp2
          go_ret
          rw [HREC.out]
          have fz : ∀ u1 u2, Fr (· = Bl) wr ((wr.setCell ⟨Bl, 1, none⟩ u1).setCell ⟨Bl, 2, none⟩ u2) := fun u1 u2 => ((Fr.refl (· = Bl) wr).set_ rfl _).set_ rfl _
          have hap := L3.out.apart K2.out
          refine ⟨rfl, K2.out.kept (fz _ _) (fun e => hap (Or.inl e.symm)) (fun e => hap (Or.inr (Or.inl e.symm))) (fun e => hap (Or.inr (Or.inr e.symm))) (fun b hb _ => by rw [hb]; exact L3.out.noB), ⟨recs + 1, next + k, fun _ => ⟨rfl, rfl⟩, (fun ⟨x, h⟩ => by cases h), ?_⟩, (K1.out.mono (fun _ h => Or.inr h)).trans ((fz _ _).mono (fun _ h => Or.inl h))⟩
          have h := (L3.out.set_next ((next : Int) + (k : Int))).set_recs ((recs : Int) + 1)
          rw [show ((recs + 1 : Nat) : Int) = (recs : Int) + 1 from by omega, show ((next + k : Nat) : Int) = (next : Int) + (k : Int) from by omega]
          exact h
end Go.Proofs.YtlhjjjpldmekdaaDoor.PDsk.K
