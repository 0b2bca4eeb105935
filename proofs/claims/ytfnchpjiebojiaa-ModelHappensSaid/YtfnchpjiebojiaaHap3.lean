/-
  Happen, whole: one contract; what it keeps.
-/
import Derived.Test.YtfnchpjiebojiaaNew
import Derived.Shelf.Abstract
namespace Go.Proofs.Ytfnchpjiebojiaa
open Go.RowKit

def hapR (σ : MSt) (h : Hp) : Bool := if h.k = 1 then acceptB σ h.n.toNat h.m else if h.k = 2 then true else if h.k = 3 then deliverB σ h.n.toNat h.m else false
def hapB (σ : MSt) (h : Hp) : Bool := (decide (0 ≤ h.n) && decide (h.n < σ.n)) && hapR σ h
def hapS (σ : MSt) (h : Hp) : MSt := if h.k = 1 then acceptS σ h.n.toNat h.m else if h.k = 3 then deliverS σ h.n.toNat h.m else σ
def hapT (σ : MSt) (h : Hp) : MSt := if hapB σ h then hapS σ h else σ

def HapR (b sb mb : Nat) (lv : Value) (σ : MSt) (h : Hp) (w : World) (e : Ending) (w' : World) : Prop :=
  e = .returned (.int .i64 (if hapB σ h then 0 else 160)) ∧ ∃ lv', ModelAt w' b sb mb lv' (hapT σ h) ∧ Mods (FM b sb mb lv) w w' ∧ ∀ y, lv'.ownBlock = some y → lv.ownBlock = some y ∨ w.heap.size ≤ y

theorem callFunc_at (f : FuncId) (hf : Try.prog.funcs[f]?.map (fun x => x.body.isSome && !(x.name == "runtime.NumGoroutine")) = some true) (args : Array Value) (w : World) : (callFunc f args).run Try.prog w = .ok (.enter f args) w := by
  cases hp : Try.prog.funcs[f]? with
  | none => rw [hp] at hf; cases hf
  | some fn =>
    rw [hp] at hf
    simp only [Option.map_some, Option.some.injEq, Bool.and_eq_true, Bool.not_eq_true'] at hf
    obtain ⟨c, hc⟩ := Option.isSome_iff_exists.1 hf.1
    exact Go.Proofs.enters_of hp hf.2 hc args w

theorem kfind_funcs (b : Nat) (k : Int) : kfind k (funcsOf b) = if k = 1 then some (.func (.func 23) #[.pointer (some ⟨b, 0, none⟩)] #[]) else if k = 2 then some (.func (.func 24) #[.pointer (some ⟨b, 0, none⟩)] #[])
    else if k = 3 then some (.func (.func 25) #[.pointer (some ⟨b, 0, none⟩)] #[]) else none := by
  unfold funcsOf
  simp only [kfind]
  by_cases h1 : k = 1
  · subst h1; rfl
  · by_cases h2 : k = 2
    · subst h2; rfl
    · by_cases h3 : k = 3
      · subst h3; rfl
      · simp [h1, h2, h3, Ne.symm h1, Ne.symm h2, Ne.symm h3]

theorem happen_at (b sb mb : Nat) (lv : Value) (σ : MSt) (h : Hp) (w : World) (hM : ModelAt w b sb mb lv σ) (hO : σ.Ok) (hlen : σ.log.length ≤ 1000000) :
    Calls Try.prog 14 #[.pointer (some ⟨b, 0, none⟩), h.val] w (HapR b sb mb lv σ h w) := by
  by_cases hn : (decide (0 ≤ h.n) && decide (h.n < σ.n)) = true
  · have hn' := hn
    simp only [Bool.and_eq_true, decide_eq_true_eq] at hn'
    have hnd : h.n = (h.n.toNat : Int) := by omega
    have hlt : h.n.toNat < σ.n := by omega
    by_cases h1 : h.k = 1
    · have hr : hapR σ h = acceptB σ h.n.toNat h.m := by unfold hapR; rw [if_pos h1]
      have hB : hapB σ h = acceptB σ h.n.toNat h.m := by unfold hapB; rw [hn, hr]; rfl
      refine (happen_call b sb mb lv σ (hapT σ h) (acceptB σ h.n.toNat h.m) 23 h w hM (by rw [kfind_funcs, if_pos h1]) hn (fun args w => callFunc_at _ (by kernel_rfl) args w) (fun w1 hM1 => ?_) _ rfl).mono (fun e w' hh => ⟨by rw [hB]; exact hh.1, hh.2⟩)
      cases ha : acceptB σ h.n.toNat h.m with
      | true =>
        have hT : hapT σ h = acceptS σ h.n.toNat h.m := by unfold hapT hapS; rw [hB, ha, if_pos rfl, if_pos h1]
        rw [hT]
        exact (accept_yes b sb mb lv σ h.n.toNat h w1 hM1 hO hnd hlt ha).mono (fun e w' hh => ⟨hh.1, lv, hh.2.1, hh.2.2, fun y hy => .inl hy⟩)
      | false =>
        have hT : hapT σ h = σ := by unfold hapT; rw [hB, ha]; rfl
        rw [hT]
        exact (accept_no b sb mb lv σ h.n.toNat h w1 hM1 hO hnd hlt ha).mono (fun e w' hh => ⟨hh.1, lv, hM1.ext hh.2, hh.2.mods _, fun y hy => .inl hy⟩)
    · by_cases h2 : h.k = 2
      · have hr : hapR σ h = true := by unfold hapR; rw [if_neg h1, if_pos h2]
        have hB : hapB σ h = true := by unfold hapB; rw [hn, hr]; rfl
        have hT : hapT σ h = σ := by unfold hapT hapS; rw [hB, if_pos rfl, if_neg h1, if_neg (by omega)]
        refine (happen_call b sb mb lv σ (hapT σ h) true 24 h w hM (by rw [kfind_funcs, if_neg h1, if_pos h2]) hn (fun args w => callFunc_at _ (by kernel_rfl) args w) (fun w1 hM1 => ?_) _ rfl).mono (fun e w' hh => ⟨by rw [hB]; exact hh.1, hh.2⟩)
        rw [hT]
        exact (refuse_at w1 b h).mono (fun e w' hh => ⟨hh.1, lv, hM1.ext hh.2, hh.2.mods _, fun y hy => .inl hy⟩)
      · by_cases h3 : h.k = 3
        · have hr : hapR σ h = deliverB σ h.n.toNat h.m := by unfold hapR; rw [if_neg h1, if_neg h2, if_pos h3]
          have hB : hapB σ h = deliverB σ h.n.toNat h.m := by unfold hapB; rw [hn, hr]; rfl
          refine (happen_call b sb mb lv σ (hapT σ h) (deliverB σ h.n.toNat h.m) 25 h w hM (by rw [kfind_funcs, if_neg h1, if_neg h2, if_pos h3]) hn (fun args w => callFunc_at _ (by kernel_rfl) args w) (fun w1 hM1 => ?_) _ rfl).mono (fun e w' hh => ⟨by rw [hB]; exact hh.1, hh.2⟩)
          have hT : hapT σ h = if deliverB σ h.n.toNat h.m then deliverS σ h.n.toNat h.m else σ := by unfold hapT hapS; rw [hB, if_neg h1, if_pos h3]
          rw [hT]
          by_cases hd : σ.del h.n.toNat = σ.log.length
          · have hdB : deliverB σ h.n.toNat h.m = layB σ h.m := by unfold deliverB; rw [if_pos hd]
            have hdS : deliverS σ h.n.toNat h.m = delS (layS σ h.m) h.n.toNat := by unfold deliverS; rw [if_pos hd]
            rw [hdB, hdS]
            cases hl : layB σ h.m with
            | true => exact deliver_new b sb mb lv σ h.n.toNat h w1 hM1 hO hnd hlt hlen hd hl
            | false => exact (deliver_no b sb mb lv σ h.n.toNat h w1 hM1 hO hnd hlt hlen hd hl).mono (fun e w' hh => ⟨hh.1, lv, hM1.ext hh.2, hh.2.mods _, fun y hy => .inl hy⟩)
          · have hdB : deliverB σ h.n.toNat h.m = decide (σ.log[σ.del h.n.toNat]? = some h.m) := by unfold deliverB; rw [if_neg hd]
            have hdS : deliverS σ h.n.toNat h.m = delS σ h.n.toNat := by unfold deliverS; rw [if_neg hd]
            rw [hdS]
            have hd2 : σ.del h.n.toNat < σ.log.length := by have := hO.del h.n.toNat; omega
            exact deliver_old b sb mb lv σ h.n.toNat h w1 hM1 hO hnd hlt hlen hd2 _ hdB.symm _ (Lib.hid rfl)
        · have hB : hapB σ h = false := by unfold hapB hapR; rw [if_neg h1, if_neg h2, if_neg h3]; simp
          have hT : hapT σ h = σ := by unfold hapT; rw [hB]; rfl
          refine (happen_out b sb mb lv σ h w hM _ rfl (.inl (by rw [kfind_funcs, if_neg h1, if_neg h2, if_neg h3]))).mono (fun e w' hh => ⟨by rw [hB]; exact hh.1, lv, by rw [hT]; exact hM.ext hh.2, hh.2.mods _, fun y hy => .inl hy⟩)
  · have hn' : (decide (0 ≤ h.n) && decide (h.n < σ.n)) = false := by simpa using hn
    have hB : hapB σ h = false := by unfold hapB; rw [hn']; rfl
    have hT : hapT σ h = σ := by unfold hapT; rw [hB]; rfl
    exact (happen_out b sb mb lv σ h w hM _ rfl (.inr hn')).mono (fun e w' hh => ⟨by rw [hB]; exact hh.1, lv, by rw [hT]; exact hM.ext hh.2, hh.2.mods _, fun y hy => .inl hy⟩)

/-! ### what stays true -/
theorem updI_le {f : Nat → Int} {i : Nat} {v c : Int} (h : ∀ j, f j ≤ c) (hv : v ≤ c) (j : Nat) : updI f i v j ≤ c := by unfold updI; split <;> simp_all
theorem updI_ge {f : Nat → Int} {i : Nat} {v c : Int} (h : ∀ j, c ≤ f j) (hv : c ≤ v) (j : Nat) : c ≤ updI f i v j := by unfold updI; split <;> simp_all
theorem accept_ok {σ : MSt} {nd : Nat} {m : Ms} (hO : σ.Ok) (h : acceptB σ nd m = true) : (acceptS σ nd m).Ok := by
  unfold acceptB at h
  simp only [Bool.and_eq_true, decide_eq_true_eq] at h
  obtain ⟨hr, hf, hc⟩ := h
  have hr' := hr
  simp only [rightB, decide_eq_true_eq] at hr'
  refine ⟨hO.n1, hO.n16, updI_ge hO.acc0 (by have := hO.acc0 nd; omega), updI_le hO.acc1 (by omega), hO.lg0, hO.lg1, hO.del, nodup_kput hO.keys, fun p hp => ?_⟩
  rcases mem_kput hp with rfl | hp
  · exact ⟨rfl, hr⟩
  · exact hO.wt p hp
theorem lay_ok {σ : MSt} {m : Ms} (hO : σ.Ok) (h : layB σ m = true) : (layS σ m).Ok := by
  unfold layB at h
  simp only [Bool.and_eq_true, decide_eq_true_eq] at h
  obtain ⟨ho, hc⟩ := h
  have hr := (hO.wt _ (kfind_mem ho)).2
  simp only [rightB, decide_eq_true_eq] at hr
  refine ⟨hO.n1, hO.n16, hO.acc0, hO.acc1, updI_ge hO.lg0 (by have := hO.lg0 m.f.toNat; omega), updI_le hO.lg1 (by omega), fun i => ?_, nodup_kdel hO.keys, fun p hp => hO.wt p (mem_kdel hp)⟩
  have := hO.del i
  simp only [layS, List.length_append, List.length_cons, List.length_nil]
  omega
theorem del_ok {σ : MSt} {nd : Nat} (hO : σ.Ok) (h : σ.del nd < σ.log.length) : (delS σ nd).Ok :=
  ⟨hO.n1, hO.n16, hO.acc0, hO.acc1, hO.lg0, hO.lg1, fun i => by
    unfold delS updI; simp only; split
    · omega
    · exact hO.del i, hO.keys, hO.wt⟩
theorem hap_ok {σ : MSt} {h : Hp} (hO : σ.Ok) : (hapT σ h).Ok := by
  unfold hapT
  by_cases hB : hapB σ h = true
  · rw [if_pos hB]
    unfold hapB hapR at hB
    unfold hapS
    simp only [Bool.and_eq_true] at hB
    by_cases h1 : h.k = 1
    · rw [if_pos h1]; rw [if_pos h1] at hB; exact accept_ok hO hB.2
    · rw [if_neg h1]; rw [if_neg h1] at hB
      by_cases h3 : h.k = 3
      · rw [if_pos h3]; rw [if_neg (by omega), if_pos h3] at hB
        have hd := hB.2
        unfold deliverB at hd
        unfold deliverS
        by_cases hq : σ.del h.n.toNat = σ.log.length
        · rw [if_pos hq] at hd ⊢
          refine del_ok (lay_ok hO hd) ?_
          simp only [layS, List.length_append, List.length_cons, List.length_nil]
          omega
        · rw [if_neg hq]; rw [if_neg hq] at hd
          have := hO.del h.n.toNat
          exact del_ok hO (by omega)
      · rw [if_neg h3]; exact hO
  · rw [if_neg hB]; exact hO
theorem hap_log {σ : MSt} {h : Hp} : (hapT σ h).log.length ≤ σ.log.length + 1 := by
  unfold hapT hapS acceptS deliverS delS layS
  split
  · split
    · simp
    · split
      · split <;> simp
      · simp
  · omega
theorem hap_n {σ : MSt} {h : Hp} : (hapT σ h).n = σ.n := by
  unfold hapT hapS acceptS deliverS delS layS
  split
  · split
    · rfl
    · split
      · split <;> rfl
      · rfl
  · rfl
end Go.Proofs.Ytfnchpjiebojiaa
